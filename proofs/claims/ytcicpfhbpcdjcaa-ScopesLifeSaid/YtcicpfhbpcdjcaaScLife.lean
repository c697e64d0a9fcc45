/- The walk of ScopesLife. -/
import Derived.Test.YtcicpfhbpcdjcaaScLifePlain
import Derived.Deep.Cut
import Derived.Deep.CutRange
import Derived.Deep.CutBlock
namespace Go.Proofs.Ytcicpfhbpcdjcaa
open Go.RowKit

set_option maxRecDepth 100000 in
set_option maxHeartbeats 8000000 in
theorem scopesLife_walk (qs qt qi qh : Int) (A : Option Addr) (c : Nat) (l : List GOp) (w : World) (_ : (Lit.int .i64 qs).wf = true) (_ : (Lit.int .i64 qt).wf = true) (_ : (Lit.int .i64 qi).wf = true) (_ : (Lit.int .i64 qh).wf = true)
    (_ : l.length ≤ c) (_ : c ≤ maxLen) (he : Cells w A (l.flatMap gopCells)) (hq : ∀ e ∈ l, GOpOk e) :
    Calls Try.prog 5 #[.agg #[.int .i64 qs, .int .i64 qt, .int .i64 qi, .int .i64 qh], .slice A l.length c] w fun e w' => e = .returned (.bool true) ∧ Below w.heap.size w w' := by
  have Hq := Lib.hid hq
  have He := Lib.hid he
  clear hq he
  obtain ⟨n, t, i, m, HPf, hP⟩ : ∃ (n : Nat) (t i m : Int), Hid (fitP ⟨qs, qt, qi, qh⟩ = ⟨n, t, i, m⟩) ∧ PlnOk ⟨n, t, i, m⟩ := by
    have h := fitP_ok ⟨qs, qt, qi, qh⟩
    refine ⟨(fitP ⟨qs, qt, qi, qh⟩).s.toNat, (fitP ⟨qs, qt, qi, qh⟩).t, (fitP ⟨qs, qt, qi, qh⟩).i, (fitP ⟨qs, qt, qi, qh⟩).h, ?_, ?_⟩
    · have := h.1
      rw [Int.toNat_of_nonneg (by omega)]
      exact rfl
    · have := h.1
      rw [Int.toNat_of_nonneg (by omega)]
      exact h
  have HP := Lib.hid hP
  obtain ⟨i0e, hi0e, hz0e, hz1e, hz2e⟩ := info_parts infoExt
  obtain ⟨n1, n8, t1, t4, i0, i1, m0, m1, _, _⟩ := hP
  dsimp only at n1 n8 t1 t4 i0 i1 m0 m1
  have n1' : 1 ≤ n := by omega
  have n8' : n ≤ 8 := by omega
  have HW0 := Lib.hid (show Below w.heap.size w (w.alloc (.cells #[.int .i64 qs, .int .i64 qt, .int .i64 qi, .int .i64 qh] 23)) by go_grown)
  have HR0 := Lib.hid (row_new w #[.int .i64 qs, .int .i64 qt, .int .i64 qi, .int .i64 qh] 23)
  go_enter Try.func5, Try.ntmps5
  go_wp2_with fail
  refine (shown_any _).mono ?_
  rintro r w1 ⟨rfl, hb⟩
  have HB1 := Lib.hid (below_only HW0.out hb)
  have HR1 := Lib.hid (row_below HR0.out hb)
  obtain ⟨pc0, pc1, pc2, pc3, _, _, _, _⟩ := box4 HR1.out
  clear hb
  go_wp2_with fail
  refine (fit_plan ⟨qs, qt, qi, qh⟩ _).mono ?_
  rintro r w2 ⟨rfl, hb⟩
  rw [HPf.out]
  have HX2 := Lib.hid (show Below w2.heap.size w2 (w2.alloc (.cells #[.int .i64 n, .int .i64 t, .int .i64 i, .int .i64 m] 23)) by go_grown)
  have HB2 := Lib.hid (below_only (below_only HB1.out hb) HX2.out)
  have HR2 := Lib.hid (row_new w2 #[.int .i64 n, .int .i64 t, .int .i64 i, .int .i64 m] 23)
  clear hb pc0 pc1 pc2 pc3
  go_wp2_with fail
  refine (snew_any ⟨n, t, i, m⟩ _ HP.out).mono ?_
  rintro r w4 ⟨p, b, g, q, rfl, hS, hb⟩
  dsimp only at hS
  obtain ⟨f, Hf⟩ : ∃ f, Hid ((n : Int) * 64 + i = f) := ⟨_, rfl⟩
  obtain ⟨e, He4⟩ : ∃ e, Hid ((n : Int) * 64 + i + m = e) := ⟨_, rfl⟩
  rw [Hf.out, show f + m = e by rw [← Hf.out, ← He4.out]] at hS
  obtain ⟨W, HW⟩ : ∃ W, Hid (w2.alloc (.cells #[.int .i64 n, .int .i64 t, .int .i64 i, .int .i64 m] 23) = W) := ⟨_, rfl⟩
  rw [HW.out] at hS hb
  have HBW := Lib.hid (show Below w.heap.size w W by rw [← HW.out]; exact HB2.out)
  have HR := Lib.hid (show W.heap[w2.heap.size]? = some (.cells #[.int .i64 n, .int .i64 t, .int .i64 i, .int .i64 m] 23 (0, 0)) by rw [← HW.out]; exact HR2.out)
  have HS4 := Lib.hid hS
  have HB4 := Lib.hid hb
  have hWw := HBW.out.size
  obtain ⟨pc0, pc1, pc2, pc3, _, _, _, _⟩ := box4 (row_below HR.out HB4.out)
  clear hS hb
  go_wp2_with fail
  go_loopw [9] (fun tt wr => ∃ (k : Nat) (q : Option Nat) (S : Sco), k ≤ l.length ∧ k ≤ 60 ∧ tt = .int .i64 k ∧ Scs W.heap.size wr p b g q f e S ∧ Below W.heap.size W wr ∧ S.l.length = n ∧ S.l[0]? = some ⟨⟨2, 1, -1, 0⟩, ((n : Int) * 64, i)⟩)
    (fun tt _ => l.length - (intOf tt).toNat)
  case atStart => exact ⟨0, q, _, Nat.zero_le _, by omega, rfl, HS4.out, HB4.out, new_len n n1' t i m, new_head n t i m⟩
  case round =>
    obtain ⟨k, q, S, hkl, hk60, rfl, hS, hB, hn, h0⟩ := hrel
    have HS := Lib.hid hS
    have HB := Lib.hid hB
    have Hn := Lib.hid hn
    have H0 := Lib.hid h0
    have hS8 : S.l.length ≤ 8 := by rw [hn]; exact n8'
    have HRr := Lib.hid (row_below HR.out hB)
    have hzr := hB.size
    obtain ⟨y0, y1, y2, y3, _, _, _, _⟩ := box4 HRr.out
    clear hS hB hn h0 pc0 pc1 pc2 pc3
    by_cases hgo : k < l.length ∧ k < 60
    · obtain ⟨hlt, hlt60⟩ := hgo
      obtain ⟨bA, off, rfl, hbl, hcl⟩ := gops_at He.out (by omega)
      obtain ⟨x, hx⟩ : ∃ x, l[k]? = some x := ⟨_, List.getElem?_eq_getElem hlt⟩
      obtain ⟨⟨xk0, xk1⟩, xi, xn⟩ := Hq.out x (List.mem_of_getElem? hx)
      obtain ⟨c0, c1, c2⟩ := hcl k x hx
      obtain ⟨xk, xs, xm⟩ := x
      dsimp only at xk0 xk1 xi xn c0 c1 c2
      have HBw := Lib.hid (show Below w.heap.size w wr from below_only HBW.out HB.out)
      have hcx := HBw.out
      have d0 := old_cell hcx c0
      have d1 := old_cell hcx c1
      have d2 := old_cell hcx c2
      have c0' := c0
      have c1' := c1
      have c2' := c2
      clear hcl hx c0 c1 c2 hcx
      go_wp2_with fail
      refine (seen_any _ p b g q f e S ⟨n, t, i, m⟩ _ HS.out (by rw [Hn.out])).mono ?_
      rintro r w5 ⟨rfl, hb5⟩
      have HB5 := Lib.hid (HB.out.trans (hb5.mono HB.out.size))
      have HS5 := Lib.hid (HS.out.below hb5)
      have z5 := hb5.size
      clear hb5
      obtain ⟨lp, lb, lg, lq⟩ := HS5.out.lt
      have HX6 := Lib.hid (show Below w5.heap.size w5 (w5.alloc (.cells (seenA S.l) 56)) by go_grown)
      have HA6 := Lib.hid (row_new w5 (seenA S.l) 56)
      have HB6 := Lib.hid (HB5.out.trans (HX6.out.mono HB5.out.size))
      have HS6 := Lib.hid (HS5.out.below HX6.out)
      have hbw6 := below_only HBW.out HB6.out
      clear d0 d1 d2
      have d0 := old_cell hbw6 c0'
      have d1 := old_cell hbw6 c1'
      have d2 := old_cell hbw6 c2'
      clear hbw6
      go_wp2_with (refine wpList_varAll 10 57 S.l hS8 rfl rfl rfl rfl rfl (by rfl) (by rfl) ?_)
      refine (does_any _ p b g q f e S xk xs xm _ xk0 xk1 HS6.out).mono ?_
      rintro r w9 ⟨rfl, ⟨q9, hS9, hq9⟩, hk9⟩
      have HT0 := Lib.hid (doesS_zero (f := f) (e := e) (k := xk) (i := xs) (n := xm) H0.out rfl)
      have HTn := Lib.hid ((doesS_len f e xk xs xm S).trans Hn.out)
      have HTs := Lib.hid (fun (j : Nat) (s t : Sc) (hs : S.l[j]? = some s) => doesS_step (f := f) (e := e) (k := xk) (i := xs) (n := xm) (t := t) hs)
      obtain ⟨u, z, T, HD⟩ : ∃ u z T, Hid (doesS f e (xk, xs, xm) S = ((u, z), T)) := ⟨_, _, _, rfl⟩
      rw [HD.out] at hS9 ⊢
      have HT0' := Lib.hid (show T.l[0]? = some ⟨⟨2, 1, -1, 0⟩, ((n : Int) * 64, i)⟩ by have := HT0.out; rw [HD.out] at this; exact this)
      have HTn' := Lib.hid (show T.l.length = n by have := HTn.out; rw [HD.out] at this; exact this)
      obtain ⟨wh, HWh⟩ : ∃ wh, Hid ((if xk % 7 = 0 then u else xs) = wh) := ⟨_, rfl⟩
      have HTs' := Lib.hid (show ∀ (j : Nat) (s t : Sc), S.l[j]? = some s → T.l[j]? = some t → t = s ∨ (ctlEq t.c s.c = false ∧ z = 0 ∧ (j : Int) = wh ∧ Trans (xk % 7) s t) by
        intro j s t hs ht
        have := HTs.out j s t hs
        rw [HD.out] at this
        rw [← HWh.out]
        exact this ht)
      have hT8 : T.l.length ≤ 8 := by rw [HTn'.out]; exact n8'
      have HS9 := Lib.hid hS9
      have HB9 := Lib.hid (HS6.out.keep_below HB6.out hk9)
      have hnt : ∀ i, i ∈ ScT b g q → i < w5.heap.size := fun i hi => by
        rcases List.mem_cons.1 hi with rfl | hi
        · exact lb
        · rcases List.mem_cons.1 hi with rfl | hi
          · exact lg
          · exact (lq i (by simpa using hi)).1
      have HA9 := Lib.hid (hk9.row HA6.out (fun hm => by have := hnt _ hm; omega))
      obtain ⟨y0', y1', y2', y3', _, _, _, _⟩ := box4 (row_below HR.out HB9.out)
      clear hS9 hq9 hk9 HT0 HTn HTs y0 y1 y2 y3 hnt d0 d1 d2
      go_wp2_with fail
      refine (seen_any _ p b g q9 f e T ⟨n, t, i, m⟩ _ HS9.out (by rw [HTn'.out])).mono ?_
      rintro r w10 ⟨rfl, hb10⟩
      have HX11 := Lib.hid (show Below w10.heap.size w10 (w10.alloc (.cells (seenA T.l) 56)) by go_grown)
      have HS11 := Lib.hid ((HS9.out.below hb10).below HX11.out)
      have HB11 := Lib.hid (HB9.out.trans ((below_only hb10 HX11.out).mono HB9.out.size))
      have HA11 := Lib.hid (show AllRow (w10.alloc (.cells (seenA T.l) 56)) w5.heap.size (padC S.l) (padX S.l) from row_below (row_below HA9.out hb10) HX11.out)
      have HN11 := Lib.hid (show AllRow (w10.alloc (.cells (seenA T.l) 56)) w10.heap.size (padC T.l) (padX T.l) from row_new w10 (seenA T.l) 56)
      have hbw11 := below_only HBW.out HB11.out
      have d0 := old_cell hbw11 c0'
      have d1 := old_cell hbw11 c1'
      have d2 := old_cell hbw11 c2'
      clear hb10 y0' y1' y2' y3' hbw11
      go_upto_if 82 with (refine wpList_varAll 13 69 T.l hT8 rfl rfl rfl rfl rfl (by rfl) (by rfl) ?_)
      go_cut [15] from 45 to 264 (fun zz wx => zz = .int .i64 wh ∧ Below (w10.alloc (.cells (seenA T.l) 56)).heap.size (w10.alloc (.cells (seenA T.l) 56)) wx)
      case first =>
        as_aux_lemma =>
          by_cases h7 : xk % 7 = 0
          · have HW2 := Lib.hid (show u = wh by rw [← HWh.out, if_pos h7])
            go_wp2_with fail
            go_meet
            exact ⟨by rw [HW2.out], Below.refl _ _⟩
          · have HW2 := Lib.hid (show xs = wh by rw [← HWh.out, if_neg h7])
            have h7' : (xk % 7 == 0) = false := by simpa using h7
            clear h7
            go_wp2_with fail
            go_meet
            exact ⟨by rw [HW2.out], Below.refl _ _⟩
      case rest =>
        obtain ⟨rfl, hbc⟩ := hcut
        have HBc := Lib.hid hbc
        clear hbc d0 d1 d2
        go_wp2_with fail
        go_loopw [16] (fun tt wz => ∃ j : Nat, j ≤ n ∧ tt = .int .i64 j ∧ Below (w10.alloc (.cells (seenA T.l) 56)).heap.size (w10.alloc (.cells (seenA T.l) 56)) wz)
          (fun tt _ => n - (intOf tt).toNat)
        case atStart => exact ⟨0, Nat.zero_le _, rfl, HBc.out⟩
        case round =>
          as_aux_lemma =>
            obtain ⟨j, hj, rfl, hbz⟩ := hrel
            have HBz := Lib.hid hbz
            have HBz9 := Lib.hid (HB11.out.trans (hbz.mono HB11.out.size))
            have HAz := Lib.hid (row_below HA11.out hbz)
            have HNz := Lib.hid (row_below HN11.out hbz)
            obtain ⟨z0, z1, z2, z3, _, _, _, _⟩ := box4 (row_below HR.out HBz9.out)
            clear hbz
            by_cases hjlt : j < n
            · obtain ⟨s, hs⟩ : ∃ s, S.l[j]? = some s := ⟨_, List.getElem?_eq_getElem (by rw [Hn.out]; exact hjlt)⟩
              obtain ⟨t', ht⟩ : ∃ t', T.l[j]? = some t' := ⟨_, List.getElem?_eq_getElem (by rw [HTn'.out]; exact hjlt)⟩
              have hj8 : (j : Int) < 8 := by omega
              obtain ⟨s0, s1, s2, s3⟩ := all_cellsC HAz.out (padC_get hs)
              obtain ⟨x0, x1⟩ := all_cellsX (padC_len hS8) HAz.out (padX_get hs)
              obtain ⟨t0, t1, t2, t3⟩ := all_cellsC HNz.out (padC_get ht)
              obtain ⟨u0, u1⟩ := all_cellsX (padC_len hT8) HNz.out (padX_get ht)
              have hso := (HS.out.ok s (List.mem_of_getElem? hs)).r
              obtain ⟨se0, se1, _⟩ := hso
              rcases HTs'.out j s t' hs ht with rfl | ⟨hne, rfl, hwj, htr⟩
              · skip
                as_aux_lemma =>
                  have hce : ctlEq ⟨t'.c.st, t'.c.n, t'.c.p, t'.c.ep⟩ ⟨t'.c.st, t'.c.n, t'.c.p, t'.c.ep⟩ = true := ctlEq_self _
                  clear hs ht
                  go_wp2_with fail
                  go_quiet (fail)
                  go_wp2_with fail
                  go_roundw
                  case rel => exact ⟨j + 1, hjlt, by go_num, (by repeat (first | exact HBz.out | refine below_drewN ?_ _ | refine Below.drew ?_))⟩
                  case measure => simp [intOf]; omega
              · have hce : ctlEq ⟨t'.c.st, t'.c.n, t'.c.p, t'.c.ep⟩ ⟨s.c.st, s.c.n, s.c.p, s.c.ep⟩ = false := hne
                obtain rfl := hwj
                clear hs ht hne
                have hsame : ((j : Int) != (j : Int)) = false := by simp
                rcases htr with ⟨hkk, h1, h2, hep⟩ | ⟨hkk, h1, h2, hep⟩ | ⟨hkk, h1, h2, hep, hxx⟩ | ⟨hkk, h1, h2, hep, hxx⟩ | ⟨hkk, h1, h2, hep, hxx⟩ | ⟨hkk, h1, h2, hep, hxx⟩
                · skip
                  as_aux_lemma =>
                    have hkb0 := (congrArg (fun v : Int => v == 0) hkk)
                    have hkb1 := (congrArg (fun v : Int => v == 1) hkk)
                    have hkb2 := (congrArg (fun v : Int => v == 2) hkk)
                    have hkb3 := (congrArg (fun v : Int => v == 3) hkk)
                    have hkb4 := (congrArg (fun v : Int => v == 4) hkk)
                    have hkb5 := (congrArg (fun v : Int => v == 5) hkk)
                    have hkb6 := (congrArg (fun v : Int => v == 6) hkk)
                    simp only [Int.reduceBEq] at hkb0 hkb1 hkb2 hkb3 hkb4 hkb5 hkb6
                    clear hkk
                    rw [h1] at s0 hce
                    rw [h2] at t0 hce
                    clear h1 h2
                    rw [hep] at t3 hce
                    have hm0 : bits .and .i64 (s.c.ep - s.c.ep) 16777215 = 0 := by rw [mask24]; omega
                    have hm1 : bits .and .i64 0 16777215 = 0 := by rw [mask24]; rfl
                    clear hep
                    go_wp2_with fail
                    go_quiet (fail)
                    go_wp2_with fail
                    go_quiet (fail)
                    go_wp2_with fail
                    go_quiet (fail)
                    go_wp2_with fail
                    go_roundw
                    case rel => exact ⟨j + 1, hjlt, by go_num, (by repeat (first | exact HBz.out | refine below_drewN ?_ _ | refine Below.drew ?_))⟩
                    case measure => simp [intOf]; omega
                · skip
                  as_aux_lemma =>
                    have hkb0 := (congrArg (fun v : Int => v == 0) hkk)
                    have hkb1 := (congrArg (fun v : Int => v == 1) hkk)
                    have hkb2 := (congrArg (fun v : Int => v == 2) hkk)
                    have hkb3 := (congrArg (fun v : Int => v == 3) hkk)
                    have hkb4 := (congrArg (fun v : Int => v == 4) hkk)
                    have hkb5 := (congrArg (fun v : Int => v == 5) hkk)
                    have hkb6 := (congrArg (fun v : Int => v == 6) hkk)
                    simp only [Int.reduceBEq] at hkb0 hkb1 hkb2 hkb3 hkb4 hkb5 hkb6
                    clear hkk
                    rw [h1] at s0 hce
                    rw [h2] at t0 hce
                    clear h1 h2
                    obtain ⟨ep, Hep⟩ : ∃ ep, Hid ((s.c.ep + 1) % 16777216 = ep) := ⟨_, rfl⟩
                    rw [hep, Hep.out] at t3 hce
                    have ep0 : 0 ≤ ep := by rw [← Hep.out]; omega
                    have ep1 : ep ≤ 16777215 := by rw [← Hep.out]; omega
                    have hm1 : bits .and .i64 (ep - s.c.ep) 16777215 = 1 := by rw [mask24, ← Hep.out]; omega
                    clear hep
                    go_wp2_with fail
                    go_quiet (fail)
                    go_wp2_with fail
                    go_quiet (fail)
                    go_wp2_with fail
                    go_quiet (fail)
                    go_wp2_with fail
                    go_roundw
                    case rel => exact ⟨j + 1, hjlt, by go_num, (by repeat (first | exact HBz.out | refine below_drewN ?_ _ | refine Below.drew ?_))⟩
                    case measure => simp [intOf]; omega
                · rcases hkk with hkk | hkk
                  · rcases h1 with h1 | h1
                    · skip
                      as_aux_lemma =>
                        have hkb0 := (congrArg (fun v : Int => v == 0) hkk)
                        have hkb1 := (congrArg (fun v : Int => v == 1) hkk)
                        have hkb2 := (congrArg (fun v : Int => v == 2) hkk)
                        have hkb3 := (congrArg (fun v : Int => v == 3) hkk)
                        have hkb4 := (congrArg (fun v : Int => v == 4) hkk)
                        have hkb5 := (congrArg (fun v : Int => v == 5) hkk)
                        have hkb6 := (congrArg (fun v : Int => v == 6) hkk)
                        simp only [Int.reduceBEq] at hkb0 hkb1 hkb2 hkb3 hkb4 hkb5 hkb6
                        clear hkk
                        rw [h1] at s0 hce
                        rw [h2] at t0 hce
                        clear h1 h2
                        rw [hep] at t3 hce
                        have hm0 : bits .and .i64 (s.c.ep - s.c.ep) 16777215 = 0 := by rw [mask24]; omega
                        have hm1 : bits .and .i64 0 16777215 = 0 := by rw [mask24]; rfl
                        clear hep
                        rw [hxx] at u0 u1
                        clear hxx
                        go_wp2_with fail
                        go_quiet (fail)
                        go_wp2_with fail
                        go_quiet (fail)
                        go_wp2_with fail
                        go_quiet (fail)
                        go_wp2_with fail
                        go_roundw
                        case rel => exact ⟨j + 1, hjlt, by go_num, (by repeat (first | exact HBz.out | refine below_drewN ?_ _ | refine Below.drew ?_))⟩
                        case measure => simp [intOf]; omega
                    · skip
                      as_aux_lemma =>
                        have hkb0 := (congrArg (fun v : Int => v == 0) hkk)
                        have hkb1 := (congrArg (fun v : Int => v == 1) hkk)
                        have hkb2 := (congrArg (fun v : Int => v == 2) hkk)
                        have hkb3 := (congrArg (fun v : Int => v == 3) hkk)
                        have hkb4 := (congrArg (fun v : Int => v == 4) hkk)
                        have hkb5 := (congrArg (fun v : Int => v == 5) hkk)
                        have hkb6 := (congrArg (fun v : Int => v == 6) hkk)
                        simp only [Int.reduceBEq] at hkb0 hkb1 hkb2 hkb3 hkb4 hkb5 hkb6
                        clear hkk
                        rw [h1] at s0 hce
                        rw [h2] at t0 hce
                        clear h1 h2
                        rw [hep] at t3 hce
                        have hm0 : bits .and .i64 (s.c.ep - s.c.ep) 16777215 = 0 := by rw [mask24]; omega
                        have hm1 : bits .and .i64 0 16777215 = 0 := by rw [mask24]; rfl
                        clear hep
                        rw [hxx] at u0 u1
                        clear hxx
                        go_wp2_with fail
                        go_quiet (fail)
                        go_wp2_with fail
                        go_quiet (fail)
                        go_wp2_with fail
                        go_quiet (fail)
                        go_wp2_with fail
                        go_roundw
                        case rel => exact ⟨j + 1, hjlt, by go_num, (by repeat (first | exact HBz.out | refine below_drewN ?_ _ | refine Below.drew ?_))⟩
                        case measure => simp [intOf]; omega
                  · rcases h1 with h1 | h1
                    · skip
                      as_aux_lemma =>
                        have hkb0 := (congrArg (fun v : Int => v == 0) hkk)
                        have hkb1 := (congrArg (fun v : Int => v == 1) hkk)
                        have hkb2 := (congrArg (fun v : Int => v == 2) hkk)
                        have hkb3 := (congrArg (fun v : Int => v == 3) hkk)
                        have hkb4 := (congrArg (fun v : Int => v == 4) hkk)
                        have hkb5 := (congrArg (fun v : Int => v == 5) hkk)
                        have hkb6 := (congrArg (fun v : Int => v == 6) hkk)
                        simp only [Int.reduceBEq] at hkb0 hkb1 hkb2 hkb3 hkb4 hkb5 hkb6
                        clear hkk
                        rw [h1] at s0 hce
                        rw [h2] at t0 hce
                        clear h1 h2
                        rw [hep] at t3 hce
                        have hm0 : bits .and .i64 (s.c.ep - s.c.ep) 16777215 = 0 := by rw [mask24]; omega
                        have hm1 : bits .and .i64 0 16777215 = 0 := by rw [mask24]; rfl
                        clear hep
                        rw [hxx] at u0 u1
                        clear hxx
                        go_wp2_with fail
                        go_quiet (fail)
                        go_wp2_with fail
                        go_quiet (fail)
                        go_wp2_with fail
                        go_quiet (fail)
                        go_wp2_with fail
                        go_roundw
                        case rel => exact ⟨j + 1, hjlt, by go_num, (by repeat (first | exact HBz.out | refine below_drewN ?_ _ | refine Below.drew ?_))⟩
                        case measure => simp [intOf]; omega
                    · skip
                      as_aux_lemma =>
                        have hkb0 := (congrArg (fun v : Int => v == 0) hkk)
                        have hkb1 := (congrArg (fun v : Int => v == 1) hkk)
                        have hkb2 := (congrArg (fun v : Int => v == 2) hkk)
                        have hkb3 := (congrArg (fun v : Int => v == 3) hkk)
                        have hkb4 := (congrArg (fun v : Int => v == 4) hkk)
                        have hkb5 := (congrArg (fun v : Int => v == 5) hkk)
                        have hkb6 := (congrArg (fun v : Int => v == 6) hkk)
                        simp only [Int.reduceBEq] at hkb0 hkb1 hkb2 hkb3 hkb4 hkb5 hkb6
                        clear hkk
                        rw [h1] at s0 hce
                        rw [h2] at t0 hce
                        clear h1 h2
                        rw [hep] at t3 hce
                        have hm0 : bits .and .i64 (s.c.ep - s.c.ep) 16777215 = 0 := by rw [mask24]; omega
                        have hm1 : bits .and .i64 0 16777215 = 0 := by rw [mask24]; rfl
                        clear hep
                        rw [hxx] at u0 u1
                        clear hxx
                        go_wp2_with fail
                        go_quiet (fail)
                        go_wp2_with fail
                        go_quiet (fail)
                        go_wp2_with fail
                        go_quiet (fail)
                        go_wp2_with fail
                        go_roundw
                        case rel => exact ⟨j + 1, hjlt, by go_num, (by repeat (first | exact HBz.out | refine below_drewN ?_ _ | refine Below.drew ?_))⟩
                        case measure => simp [intOf]; omega
                · rcases h2 with h2 | h2
                  · skip
                    as_aux_lemma =>
                      have hkb0 := (congrArg (fun v : Int => v == 0) hkk)
                      have hkb1 := (congrArg (fun v : Int => v == 1) hkk)
                      have hkb2 := (congrArg (fun v : Int => v == 2) hkk)
                      have hkb3 := (congrArg (fun v : Int => v == 3) hkk)
                      have hkb4 := (congrArg (fun v : Int => v == 4) hkk)
                      have hkb5 := (congrArg (fun v : Int => v == 5) hkk)
                      have hkb6 := (congrArg (fun v : Int => v == 6) hkk)
                      simp only [Int.reduceBEq] at hkb0 hkb1 hkb2 hkb3 hkb4 hkb5 hkb6
                      clear hkk
                      rw [h1] at s0 hce
                      rw [h2] at t0 hce
                      clear h1 h2
                      rw [hep] at t3 hce
                      have hm0 : bits .and .i64 (s.c.ep - s.c.ep) 16777215 = 0 := by rw [mask24]; omega
                      have hm1 : bits .and .i64 0 16777215 = 0 := by rw [mask24]; rfl
                      clear hep
                      rw [hxx] at u0 u1
                      clear hxx
                      go_wp2_with fail
                      go_quiet (fail)
                      go_wp2_with fail
                      go_quiet (fail)
                      go_wp2_with fail
                      go_quiet (fail)
                      go_wp2_with fail
                      go_roundw
                      case rel => exact ⟨j + 1, hjlt, by go_num, (by repeat (first | exact HBz.out | refine below_drewN ?_ _ | refine Below.drew ?_))⟩
                      case measure => simp [intOf]; omega
                  · skip
                    as_aux_lemma =>
                      have hkb0 := (congrArg (fun v : Int => v == 0) hkk)
                      have hkb1 := (congrArg (fun v : Int => v == 1) hkk)
                      have hkb2 := (congrArg (fun v : Int => v == 2) hkk)
                      have hkb3 := (congrArg (fun v : Int => v == 3) hkk)
                      have hkb4 := (congrArg (fun v : Int => v == 4) hkk)
                      have hkb5 := (congrArg (fun v : Int => v == 5) hkk)
                      have hkb6 := (congrArg (fun v : Int => v == 6) hkk)
                      simp only [Int.reduceBEq] at hkb0 hkb1 hkb2 hkb3 hkb4 hkb5 hkb6
                      clear hkk
                      rw [h1] at s0 hce
                      rw [h2] at t0 hce
                      clear h1 h2
                      rw [hep] at t3 hce
                      have hm0 : bits .and .i64 (s.c.ep - s.c.ep) 16777215 = 0 := by rw [mask24]; omega
                      have hm1 : bits .and .i64 0 16777215 = 0 := by rw [mask24]; rfl
                      clear hep
                      rw [hxx] at u0 u1
                      clear hxx
                      go_wp2_with fail
                      go_quiet (fail)
                      go_wp2_with fail
                      go_quiet (fail)
                      go_wp2_with fail
                      go_quiet (fail)
                      go_wp2_with fail
                      go_roundw
                      case rel => exact ⟨j + 1, hjlt, by go_num, (by repeat (first | exact HBz.out | refine below_drewN ?_ _ | refine Below.drew ?_))⟩
                      case measure => simp [intOf]; omega
                · skip
                  as_aux_lemma =>
                    have hkb0 := (congrArg (fun v : Int => v == 0) hkk)
                    have hkb1 := (congrArg (fun v : Int => v == 1) hkk)
                    have hkb2 := (congrArg (fun v : Int => v == 2) hkk)
                    have hkb3 := (congrArg (fun v : Int => v == 3) hkk)
                    have hkb4 := (congrArg (fun v : Int => v == 4) hkk)
                    have hkb5 := (congrArg (fun v : Int => v == 5) hkk)
                    have hkb6 := (congrArg (fun v : Int => v == 6) hkk)
                    simp only [Int.reduceBEq] at hkb0 hkb1 hkb2 hkb3 hkb4 hkb5 hkb6
                    clear hkk
                    rw [h1] at s0 hce
                    rw [h2] at t0 hce
                    clear h1 h2
                    obtain ⟨ep, Hep⟩ : ∃ ep, Hid ((s.c.ep + 1) % 16777216 = ep) := ⟨_, rfl⟩
                    rw [hep, Hep.out] at t3 hce
                    have ep0 : 0 ≤ ep := by rw [← Hep.out]; omega
                    have ep1 : ep ≤ 16777215 := by rw [← Hep.out]; omega
                    have hm1 : bits .and .i64 (ep - s.c.ep) 16777215 = 1 := by rw [mask24, ← Hep.out]; omega
                    clear hep
                    rw [hxx] at u0 u1
                    clear hxx
                    go_wp2_with fail
                    go_quiet (fail)
                    go_wp2_with fail
                    go_quiet (fail)
                    go_wp2_with fail
                    go_quiet (fail)
                    go_wp2_with fail
                    go_roundw
                    case rel => exact ⟨j + 1, hjlt, by go_num, (by repeat (first | exact HBz.out | refine below_drewN ?_ _ | refine Below.drew ?_))⟩
                    case measure => simp [intOf]; omega
                · skip
                  as_aux_lemma =>
                    have hkb0 := (congrArg (fun v : Int => v == 0) hkk)
                    have hkb1 := (congrArg (fun v : Int => v == 1) hkk)
                    have hkb2 := (congrArg (fun v : Int => v == 2) hkk)
                    have hkb3 := (congrArg (fun v : Int => v == 3) hkk)
                    have hkb4 := (congrArg (fun v : Int => v == 4) hkk)
                    have hkb5 := (congrArg (fun v : Int => v == 5) hkk)
                    have hkb6 := (congrArg (fun v : Int => v == 6) hkk)
                    simp only [Int.reduceBEq] at hkb0 hkb1 hkb2 hkb3 hkb4 hkb5 hkb6
                    clear hkk
                    rw [h1] at s0 hce
                    rw [h2] at t0 hce
                    clear h1 h2
                    rw [hep] at t3 hce
                    have hm0 : bits .and .i64 (s.c.ep - s.c.ep) 16777215 = 0 := by rw [mask24]; omega
                    have hm1 : bits .and .i64 0 16777215 = 0 := by rw [mask24]; rfl
                    clear hep
                    rw [hxx] at u0 u1
                    clear hxx
                    go_wp2_with fail
                    go_quiet (fail)
                    go_wp2_with fail
                    go_quiet (fail)
                    go_wp2_with fail
                    go_quiet (fail)
                    go_wp2_with fail
                    go_roundw
                    case rel => exact ⟨j + 1, hjlt, by go_num, (by repeat (first | exact HBz.out | refine below_drewN ?_ _ | refine Below.drew ?_))⟩
                    case measure => simp [intOf]; omega
            · obtain rfl : j = n := by omega
              as_aux_lemma =>
                go_wp2_with fail
                go_roundw
                case rel => exact ⟨k + 1, q9, T, by omega, by omega, by go_num, HS11.out.below HBz.out, HBz9.out, HTn'.out, HT0'.out⟩
                case measure => simp [intOf]; omega
    · have hex : ¬ k < l.length ∨ (k < l.length ∧ ¬ k < 60) := by omega
      clear hgo
      rcases hex with h1 | ⟨h1, h2⟩
      all_goals
        go_wp2
        go_ret
        exact ⟨rfl, below_only HBW.out HB.out⟩

end Go.Proofs.Ytcicpfhbpcdjcaa
