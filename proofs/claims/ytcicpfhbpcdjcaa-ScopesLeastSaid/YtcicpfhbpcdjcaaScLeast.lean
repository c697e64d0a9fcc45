/- The walk of ScopesLeast. -/
import Derived.Test.YtcicpfhbpcdjcaaScOpen
import Derived.Deep.Cut
import Derived.Deep.CutRange
import Derived.Deep.CutBlock
namespace Go.Proofs.Ytcicpfhbpcdjcaa
open Go.RowKit

/-- the first scope that is free -/
theorem freeAt_some {l : List Sc} {K : Nat} {s : Sc} (h : l[K]? = some s) (h0 : s.c.st = 0) (hlow : ∀ j t, j < K → l[j]? = some t → t.c.st ≠ 0) : freeAt l = some K :=
  findIdx_mk h (by simpa using h0) (fun j t hj ht => by simpa using hlow j t hj ht)
theorem freeAt_none {l : List Sc} (hlow : ∀ j t, j < l.length → l[j]? = some t → t.c.st ≠ 0) : freeAt l = none := by
  cases h : freeAt l with
  | none => rfl
  | some i =>
    obtain ⟨y, h1, h2, h3, _⟩ := findIdx_some h
    exact absurd (by simpa using h3) (hlow i y h2 h1)
theorem carve_iff {n : Int} {F : List Ext} (hn : 1 ≤ n ∧ n % 8 = 0) : (carveF n F).2.1 = true ↔ ∃ x ∈ F, n ≤ x.2 := by
  have hb : carveBad n = false := carveBad_no.2 hn
  cases hc : carveAt n F with
  | none =>
    have hcf : (carveF n F).2.1 = false := by unfold carveF; rw [if_neg (by rw [hb]; simp), hc]
    rw [hcf]
    constructor
    · intro h
      cases h
    · rintro ⟨x, hx, hn⟩
      have := findIdx_none hc x hx
      simp at this
      omega
  | some i =>
    obtain ⟨y, h1, h2, h3, _⟩ := findIdx_some hc
    have hcf : (carveF n F).2.1 = true := by unfold carveF; rw [if_neg (by rw [hb]; simp), hc]; simp only [h1]
    rw [hcf]
    exact ⟨fun _ => ⟨y, List.mem_of_getElem? h1, by simpa using h3⟩, fun _ => rfl⟩

set_option maxRecDepth 100000 in
set_option maxHeartbeats 8000000 in
theorem scopesLeast_walk (qs qt qi qh : Int) (A : Option Addr) (c : Nat) (l : List GOp) (w : World) (_ : (Lit.int .i64 qs).wf = true) (_ : (Lit.int .i64 qt).wf = true) (_ : (Lit.int .i64 qi).wf = true) (_ : (Lit.int .i64 qh).wf = true)
    (_ : l.length ≤ c) (_ : c ≤ maxLen) (he : Cells w A (l.flatMap gopCells)) (hq : ∀ e ∈ l, GOpOk e) :
    Calls Try.prog 7 #[.agg #[.int .i64 qs, .int .i64 qt, .int .i64 qi, .int .i64 qh], .slice A l.length c] w fun e w' => e = .returned (.bool true) ∧ Below w.heap.size w w' := by
  have Hq := Lib.hid hq
  have He := Lib.hid he
  clear hq he
  obtain ⟨n, t, i, m, HPf, hP⟩ : ∃ (n : Nat) (t i m : Int), Hid (fitP ⟨qs, qt, qi, qh⟩ = ⟨n, t, i, m⟩) ∧ PlnOk ⟨n, t, i, m⟩ := by
    have h := fitP_ok ⟨qs, qt, qi, qh⟩
    refine ⟨(fitP ⟨qs, qt, qi, qh⟩).s.toNat, (fitP ⟨qs, qt, qi, qh⟩).t, (fitP ⟨qs, qt, qi, qh⟩).i, (fitP ⟨qs, qt, qi, qh⟩).h, ?_, ?_⟩
    · have := h.1
      rw [Int.toNat_of_nonneg (by omega)]
      exact rfl
    · have := h.1
      rw [Int.toNat_of_nonneg (by omega)]
      exact h
  have HP := Lib.hid hP
  obtain ⟨i0e, hi0e, hz0e, hz1e, hz2e⟩ := info_parts infoExt
  obtain ⟨n1, n8, t1, t4, i0, i1, m0, m1, _, _⟩ := hP
  dsimp only at n1 n8 t1 t4 i0 i1 m0 m1
  have n1' : 1 ≤ n := by omega
  have n8' : n ≤ 8 := by omega
  have HW0 := Lib.hid (show Below w.heap.size w (w.alloc (.cells #[.int .i64 qs, .int .i64 qt, .int .i64 qi, .int .i64 qh] 23)) by go_grown)
  have HR0 := Lib.hid (row_new w #[.int .i64 qs, .int .i64 qt, .int .i64 qi, .int .i64 qh] 23)
  go_enter Try.func7, Try.ntmps7
  go_wp2_with fail
  refine (shown_any _).mono ?_
  rintro r w1 ⟨rfl, hb⟩
  have HB1 := Lib.hid (below_only HW0.out hb)
  have HR1 := Lib.hid (row_below HR0.out hb)
  obtain ⟨pc0, pc1, pc2, pc3, _, _, _, _⟩ := box4 HR1.out
  clear hb
  go_wp2_with fail
  refine (fit_plan ⟨qs, qt, qi, qh⟩ _).mono ?_
  rintro r w2 ⟨rfl, hb⟩
  rw [HPf.out]
  have HX2 := Lib.hid (show Below w2.heap.size w2 (w2.alloc (.cells #[.int .i64 n, .int .i64 t, .int .i64 i, .int .i64 m] 23)) by go_grown)
  have HB2 := Lib.hid (below_only (below_only HB1.out hb) HX2.out)
  have HR2 := Lib.hid (row_new w2 #[.int .i64 n, .int .i64 t, .int .i64 i, .int .i64 m] 23)
  clear hb pc0 pc1 pc2 pc3
  go_wp2_with fail
  refine (snew_any ⟨n, t, i, m⟩ _ HP.out).mono ?_
  rintro r w4 ⟨p, b, g, q, rfl, hS, hb⟩
  dsimp only at hS
  obtain ⟨f, Hf⟩ : ∃ f, Hid ((n : Int) * 64 + i = f) := ⟨_, rfl⟩
  obtain ⟨e, He4⟩ : ∃ e, Hid ((n : Int) * 64 + i + m = e) := ⟨_, rfl⟩
  rw [Hf.out, show f + m = e by rw [← Hf.out, ← He4.out]] at hS
  obtain ⟨W, HW⟩ : ∃ W, Hid (w2.alloc (.cells #[.int .i64 n, .int .i64 t, .int .i64 i, .int .i64 m] 23) = W) := ⟨_, rfl⟩
  rw [HW.out] at hS hb
  have HBW := Lib.hid (show Below w.heap.size w W by rw [← HW.out]; exact HB2.out)
  have HR := Lib.hid (show W.heap[w2.heap.size]? = some (.cells #[.int .i64 n, .int .i64 t, .int .i64 i, .int .i64 m] 23 (0, 0)) by rw [← HW.out]; exact HR2.out)
  have HS4 := Lib.hid hS
  have HB4 := Lib.hid hb
  have hWw := HBW.out.size
  obtain ⟨pc0, pc1, pc2, pc3, _, _, _, _⟩ := box4 (row_below HR.out HB4.out)
  clear hS hb
  go_wp2_with fail
  go_loopw [9] (fun tt wr => ∃ (k : Nat) (q : Option Nat) (S : Sco), k ≤ l.length ∧ k ≤ 60 ∧ tt = .int .i64 k ∧ Scs W.heap.size wr p b g q f e S ∧ Below W.heap.size W wr ∧ S.l.length = n ∧ S.l[0]? = some ⟨⟨2, 1, -1, 0⟩, ((n : Int) * 64, i)⟩)
    (fun tt _ => l.length - (intOf tt).toNat)
  case atStart => exact ⟨0, q, _, Nat.zero_le _, by omega, rfl, HS4.out, HB4.out, new_len n n1' t i m, new_head n t i m⟩
  case round =>
    obtain ⟨k, q, S, hkl, hk60, rfl, hS, hB, hn, h0⟩ := hrel
    have HS := Lib.hid hS
    have HB := Lib.hid hB
    have Hn := Lib.hid hn
    have H0 := Lib.hid h0
    have hS8 : S.l.length ≤ 8 := by rw [hn]; exact n8'
    have HRr := Lib.hid (row_below HR.out hB)
    have hzr := hB.size
    obtain ⟨y0, y1, y2, y3, _, _, _, _⟩ := box4 HRr.out
    clear hS hB hn h0 pc0 pc1 pc2 pc3
    by_cases hgo : k < l.length ∧ k < 60
    · obtain ⟨hlt, hlt60⟩ := hgo
      obtain ⟨bA, off, rfl, hbl, hcl⟩ := gops_at He.out (by omega)
      obtain ⟨x, hx⟩ : ∃ x, l[k]? = some x := ⟨_, List.getElem?_eq_getElem hlt⟩
      obtain ⟨⟨xk0, xk1⟩, xi, xn⟩ := Hq.out x (List.mem_of_getElem? hx)
      obtain ⟨c0, c1, c2⟩ := hcl k x hx
      obtain ⟨xk, xs, xm⟩ := x
      dsimp only at xk0 xk1 xi xn c0 c1 c2
      have HBw := Lib.hid (show Below w.heap.size w wr from below_only HBW.out HB.out)
      have hcx := HBw.out
      have d0 := old_cell hcx c0
      have d1 := old_cell hcx c1
      have d2 := old_cell hcx c2
      have c0' := c0
      have c1' := c1
      have c2' := c2
      clear hcl hx c0 c1 c2 hcx
      go_wp2_with fail
      refine (seen_any _ p b g q f e S ⟨n, t, i, m⟩ _ HS.out (by rw [Hn.out])).mono ?_
      rintro r w5 ⟨rfl, hb5⟩
      have HB5 := Lib.hid (HB.out.trans (hb5.mono HB.out.size))
      have HS5 := Lib.hid (HS.out.below hb5)
      have z5 := hb5.size
      clear hb5
      obtain ⟨lp, lb, lg, lq⟩ := HS5.out.lt
      have hX6 : Below w5.heap.size w5 ((w5.alloc (.cells (seenA S.l) 56)).alloc (.cells #[] 32)) := by go_grown
      have hA6 : ((w5.alloc (.cells (seenA S.l) 56)).alloc (.cells #[] 32)).heap[w5.heap.size]? = some (.cells (seenA S.l) 56 (0, 0)) := row_alloc (row_new _ _ _)
      have hE6 : ((w5.alloc (.cells (seenA S.l) 56)).alloc (.cells #[] 32)).heap[w5.heap.size + 1]? = some (.cells #[] 32 (0, 0)) := heap_at (by simp)
      have HX6 := Lib.hid hX6
      have HA6 := Lib.hid hA6
      have HE6 := Lib.hid hE6
      have HF := Lib.hid HS.out.gr.size
      have hF : S.F.length ≤ 131072 := HF.out
      clear hX6 hA6 hE6
      go_wp2_with (refine wpList_varAll 10 53 S.l hS8 rfl rfl rfl rfl rfl (by rfl) (by rfl) ?_)
      refine (sfree_any _ p b g q f e S _ (HS5.out.below HX6.out)).mono ?_
      rintro r w7 ⟨v, rfl, A7, c7, rfl, hc7, hcs7, _, hb7⟩
      have HS7 := Lib.hid ((HS5.out.below HX6.out).below hb7)
      have HB7 := Lib.hid (HB5.out.trans ((below_only HX6.out hb7).mono HB5.out.size))
      have HA7 := Lib.hid (row_below HA6.out hb7)
      have hE7 := row_below HE6.out hb7
      have z7 : w5.heap.size + 2 ≤ w7.heap.size := by have := lt_of_heap hE7; omega
      have z7' : w5.heap.size + 1 ≤ w7.heap.size := by omega
      have z7w : W.heap.size ≤ w7.heap.size := HB7.out.size
      have Ho7 := Lib.hid (own_empty (e := 32) (size := 2) (Nat.le_refl (w5.heap.size + 1)) hE7)
      have HC7 := Lib.hid hcs7
      clear hb7 hcs7 hE7
      go_wp2_with (at_builtin; refine wpList_append_any _ rfl (.tmp 54) (.tmp 56) _ (by rfl) (w5.heap.size + 1) 32 i0e _ 2 16 Try.underlying46 hi0e hz0e hz1e hz2e rfl (by omega) (.slice (some ⟨w5.heap.size + 1, 0, none⟩) 0 0) 0 [] (by rfl) Ho7.out A7 S.F.length c7 (S.F.flatMap extCells) (by rfl) (exts_len S.F) HC7.out (exts_one S.F) (by simp only [maxLen]; omega) (by omega) z7' ?_; intro v8 w8 hown8 hg8 hat8; simp only [Nat.zero_add, List.nil_append] at hown8; obtain ⟨A8, c8, rfl, hc8, hm8, hcs8⟩ := own_slice hown8; have hA8 := own_ge hown8; have HL8 := Lib.hid (show ∀ a, A8 = some a → w5.heap.size + 1 ≤ a.block from fun a ha => hA8 a.block (by rw [ha]; rfl)); have HU8 := Lib.hid ((Below.refl (w5.heap.size + 1) w7).grown hg8 z7' (own_ge Ho7.out)); have HB8 := Lib.hid (HB7.out.grown hg8 z7w (fun i hi => by have := own_ge Ho7.out i hi; omega)); have HC8 := Lib.hid hcs8; have z8 := hg8.size; have hbw8 := below_only HBW.out HB8.out; clear d0 d1 d2; have d0 := old_cell hbw8 c0'; have d1 := old_cell hbw8 c1'; have d2 := old_cell hbw8 c2'; clear hown8 hg8 hat8 hcs8 hA8 hbw8)
      have HS8 := Lib.hid (HS7.out.upto HU8.out (by omega) (by omega) (by omega) (fun i hi => by have := (lq i hi).1; omega))
      have HA8 := Lib.hid ((HU8.out.block w5.heap.size (by omega)).trans HA7.out)
      have HR8 := Lib.hid (row_below HR.out HB8.out)
      refine (does_any _ p b g q f e S xk xs xm _ xk0 xk1 HS8.out).mono ?_
      rintro r w9 ⟨rfl, ⟨q9, hS9, hq9⟩, hk9⟩
      have HT0 := Lib.hid (doesS_zero (f := f) (e := e) (k := xk) (i := xs) (n := xm) H0.out rfl)
      have HTn := Lib.hid ((doesS_len f e xk xs xm S).trans Hn.out)
      have HTr := Lib.hid (doesS_refused (f := f) (e := e) (k := xk) (i := xs) (n := xm) (S := S))
      obtain ⟨u, z, T, HD⟩ : ∃ u z T, Hid (doesS f e (xk, xs, xm) S = ((u, z), T)) := ⟨_, _, _, rfl⟩
      rw [HD.out] at hS9 ⊢
      have HT0' := Lib.hid (show T.l[0]? = some ⟨⟨2, 1, -1, 0⟩, ((n : Int) * 64, i)⟩ by have := HT0.out; rw [HD.out] at this; exact this)
      have HTn' := Lib.hid (show T.l.length = n by have := HTn.out; rw [HD.out] at this; exact this)
      have HTr' := Lib.hid (show z ≠ 0 → T = S by have := HTr.out; rw [HD.out] at this; exact this)
      have hT8 : T.l.length ≤ 8 := by rw [HTn'.out]; exact n8'
      have HS9 := Lib.hid hS9
      have HB9 := Lib.hid (HS8.out.keep_below HB8.out hk9)
      have hnt : ∀ i, i ∈ ScT b g q → i < w5.heap.size := fun i hi => by
        rcases List.mem_cons.1 hi with rfl | hi
        · exact lb
        · rcases List.mem_cons.1 hi with rfl | hi
          · exact lg
          · exact (lq i (by simpa using hi)).1
      have HA9 := Lib.hid (hk9.row HA8.out (fun hm => by have := hnt _ hm; omega))
      have HC9 := Lib.hid (HC8.out.kept hk9 (fun a ha hm => by have := hnt _ hm; have := HL8.out a ha; omega))
      obtain ⟨y0', y1', y2', y3', _, _, _, _⟩ := box4 (row_below HR.out HB9.out)
      clear hS9 hq9 hk9 HT0 HTn HTr y0 y1 y2 y3 hnt
      have HBk := Lib.hid (below_only HBW.out HB9.out)
      have e0' := old_cell HBk.out c0'
      have e1' := old_cell HBk.out c1'
      have e2' := old_cell HBk.out c2'
      have HA9' := Lib.hid (show AllRow w9 w5.heap.size (padC S.l) (padX S.l) from HA9.out)
      clear d0 d1 d2
      by_cases hk7 : xk % 7 = 0
      · have HD0 := Lib.hid (show doesS f e (xk, xs, xm) S = createS xm S by simp [doesS, hk7])
        have HCr := Lib.hid (show createS xm S = ((u, z), T) from HD0.out.symm.trans HD.out)
        have hne7 : (xk % 7 != 0) = false := by rw [hk7]; rfl
        have HK7 := Lib.hid hk7
        clear hk7
        go_upto_block 2 with fail
        go_cut [14] from 41 to 187 (fun tt wx => ∃ K : Nat, 1 ≤ K ∧ K ≤ n ∧ tt = .int .i64 K ∧ (K < n → ∃ s, S.l[K]? = some s ∧ s.c.st = 0 ∧ freeAt S.l = some K) ∧ (K = n → freeAt S.l = none) ∧ Below w9.heap.size w9 wx)
        case first =>
          go_wp2_with fail
          go_loopw [14] (fun tt wx => ∃ K : Nat, 1 ≤ K ∧ K ≤ n ∧ tt = .int .i64 K ∧ (∀ j s, 1 ≤ j → j < K → S.l[j]? = some s → s.c.st ≠ 0) ∧ Below w9.heap.size w9 wx)
            (fun tt _ => n - (intOf tt).toNat)
          case atStart => exact ⟨1, Nat.le_refl _, n1', rfl, fun j s h1 h2 => by omega, Below.refl _ _⟩
          case round =>
            obtain ⟨K, hK1, hKn, rfl, hlow, hbx⟩ := hrel
            have HLow := Lib.hid hlow
            have HBx := Lib.hid hbx
            have HAx := Lib.hid (row_below HA9'.out hbx)
            have HRx := Lib.hid (row_below (row_below HR.out HB9.out) hbx)
            obtain ⟨y0, y1, y2, y3, _, _, _, _⟩ := box4 HRx.out
            clear hlow hbx y0' y1' y2' y3'
            by_cases hKlt : K < n
            · obtain ⟨s, hs⟩ : ∃ s, S.l[K]? = some s := ⟨_, List.getElem?_eq_getElem (by rw [Hn.out]; exact hKlt)⟩
              obtain ⟨s0, s1, s2, s3⟩ := all_cellsC HAx.out (padC_get hs)
              have hK8 : (K : Int) < 8 := by omega
              have Hs := Lib.hid hs
              clear hs
              by_cases hst : s.c.st = 0
              · have est : (s.c.st != 0) = false := by rw [hst]; rfl
                have HFr := Lib.hid (freeAt_some Hs.out hst (fun j t hj ht => by
                  rcases Nat.eq_zero_or_pos j with rfl | h0
                  · rw [H0.out] at ht; injection ht with ht; subst ht; exact (show (2 : Int) ≠ 0 by decide)
                  · exact HLow.out j t h0 hj ht))
                have Hst := Lib.hid hst
                clear hst
                go_wp2_with fail
                go_meet
                exact ⟨K, hK1, hKn, rfl, fun _ => ⟨s, Hs.out, Hst.out, HFr.out⟩, fun h => by omega, by repeat (first | exact HBx.out | refine below_drewN ?_ _ | refine Below.drew ?_)⟩
              · have est : (s.c.st != 0) = true := by simpa using hst
                have Hst := Lib.hid hst
                clear hst
                go_wp2_with fail
                go_roundw
                case rel =>
                  refine ⟨K + 1, by omega, hKlt, by go_num, fun j t h1 h2 ht => ?_, by repeat (first | exact HBx.out | refine below_drewN ?_ _ | refine Below.drew ?_)⟩
                  rcases Nat.lt_or_ge j K with h | h
                  · exact HLow.out j t h1 h ht
                  · obtain rfl : j = K := by omega
                    rw [Hs.out] at ht
                    injection ht with ht
                    subst ht
                    exact Hst.out
                case measure => simp [intOf]; omega
            · obtain rfl : K = n := by omega
              have HFr := Lib.hid (freeAt_none (fun j t hj ht => by
                  rcases Nat.eq_zero_or_pos j with rfl | h0
                  · rw [H0.out] at ht; injection ht with ht; subst ht; exact (show (2 : Int) ≠ 0 by decide)
                  · exact HLow.out j t h0 (by rw [← Hn.out]; exact hj) ht))
              go_wp2_with fail
              go_meet
              exact ⟨K, hK1, hKn, rfl, fun h => by omega, fun _ => HFr.out, by repeat (first | exact HBx.out | refine below_drewN ?_ _ | refine Below.drew ?_)⟩
        case rest =>
          obtain ⟨K, hK1, hKn, rfl, hf1, hf2, hbx⟩ := hcut
          have HF1 := Lib.hid hf1
          have HF2 := Lib.hid hf2
          have HBx := Lib.hid hbx
          have g0 := old_cell hbx e0'
          have g1 := old_cell hbx e1'
          have g2 := old_cell hbx e2'
          clear hf1 hf2 hbx y0' y1' y2' y3'
          go_upto_if 102 with fail
          go_cut [15] from 41 to 187 (fun zz wx => ∃ Z : Int, zz = .int .i64 Z ∧ (inB xm 1 8192 = true → up8 xm = Z) ∧ Below w9.heap.size w9 wx)
          case first =>
            by_cases h8 : xm % 8 = 0
            · have e8 : (bits .and .i64 xm 7 == 0) = true := by rw [mask3, h8]; rfl
              have H8 := Lib.hid h8
              clear h8
              go_wp2_with fail
              go_meet
              exact ⟨xm, rfl, fun h => by have := up8_ok h; have := H8.out; unfold up8; omega, by repeat (first | exact HBx.out | refine below_drewN ?_ _ | refine Below.drew ?_)⟩
            · have e8 : (bits .and .i64 xm 7 == 0) = false := by rw [mask3, beq_eq_false_iff_ne]; exact h8
              have H8 := Lib.hid h8
              clear h8
              go_wp2_with fail
              go_meet
              refine ⟨_, rfl, fun h => ?_, by repeat (first | exact HBx.out | refine below_drewN ?_ _ | refine Below.drew ?_)⟩
              have hh := up8_ok h
              have h8 := H8.out
              have hb1 : 1 ≤ xm ∧ xm ≤ 8192 := by simpa [inB] using h
              have ea : bits .andNot .i64 xm 7 = xm / 8 * 8 := andNot7 xm (by omega) (by omega)
              have eb : bits .andNot .i64 (xm / 8 * 8 + 8) 7 = xm / 8 * 8 + 8 := by rw [andNot7 _ (by omega) (by omega)]; omega
              rw [ea]
              first
                | rw [IntWalk.i64_in _ (by omega), eb]
                | rw [IntWalk.wrap64_in _ (by omega), eb]
              unfold up8
              omega
          case rest =>
            obtain ⟨Z, rfl, hZ, hbx⟩ := hcut
            have HZ := Lib.hid hZ
            have HBx := Lib.hid hbx
            have g0 := old_cell hbx e0'
            have g1 := old_cell hbx e1'
            have g2 := old_cell hbx e2'
            clear hZ hbx
            go_wp2_with fail
            have HCx := Lib.hid HC9.out
            have HBx' := HBx.out
            go_loopw [16, 17] (fun rv tt wz => ∃ (j : Nat) (rm : Bool), j ≤ S.F.length ∧ tt = .int .i64 j ∧ rv = .bool rm ∧ (rm = true ↔ ∃ x ∈ S.F.take j, Z ≤ x.2) ∧ Below w9.heap.size w9 wz)
              (fun _ tt _ => S.F.length - (intOf tt).toNat)
            case atStart => exact ⟨0, false, Nat.zero_le _, rfl, rfl, by simp, HBx'⟩
            case round =>
              obtain ⟨j, rm, hj, rfl, rfl, hrm, hbz⟩ := hrel
              have HBz := Lib.hid hbz
              have HRm := Lib.hid hrm
              clear hrm
              by_cases hjlt : j < S.F.length
              · obtain ⟨bF, oF, rfl, _, hcF⟩ := exts_at HCx.out (by omega)
                obtain ⟨x, hx⟩ : ∃ x, S.F[j]? = some x := ⟨_, List.getElem?_eq_getElem hjlt⟩
                obtain ⟨x0, x1⟩ := hcF j x hx
                have x0' := old_cell hbz x0
                have x1' := old_cell hbz x1
                have Hx := Lib.hid hx
                clear hcF hx x0 x1 hbz
                cases rm with
                | true =>
                  go_wp2_with fail
                  go_roundw
                  case rel => exact ⟨j + 1, true, hjlt, by go_num, rfl, ⟨fun _ => by obtain ⟨y, hy, h⟩ := HRm.out.1 rfl; exact ⟨y, (List.take_subset_take_left _ (Nat.le_succ _)) hy, h⟩, fun _ => rfl⟩, by repeat (first | exact HBz.out | refine below_drewN ?_ _ | refine Below.drew ?_)⟩
                  case measure => simp [intOf]; omega
                | false =>
                  have htk : S.F.take (j + 1) = S.F.take j ++ [x] := by rw [List.take_add_one, Hx.out]; rfl
                  have Htk := Lib.hid htk
                  clear htk
                  cases hd : decide (Z ≤ x.2) with
                  | true =>
                    have hd' : Z ≤ x.2 := of_decide_eq_true hd
                    have Hd := Lib.hid hd'
                    clear hd'
                    go_wp2_with fail
                    go_roundw
                    case rel => exact ⟨j + 1, true, hjlt, by go_num, rfl, ⟨fun _ => ⟨x, by rw [Htk.out]; simp, Hd.out⟩, fun _ => rfl⟩, by repeat (first | exact HBz.out | refine below_drewN ?_ _ | refine Below.drew ?_)⟩
                    case measure => simp [intOf]; omega
                  | false =>
                    have hd' : ¬ Z ≤ x.2 := of_decide_eq_false hd
                    have Hd := Lib.hid hd'
                    clear hd'
                    go_wp2_with fail
                    go_roundw
                    case rel =>
                      refine ⟨j + 1, false, hjlt, by go_num, rfl, ⟨(fun h => nomatch h), fun ⟨y, hy, h⟩ => ?_⟩, by repeat (first | exact HBz.out | refine below_drewN ?_ _ | refine Below.drew ?_)⟩
                      rw [Htk.out, List.mem_append, List.mem_singleton] at hy
                      rcases hy with hy | rfl
                      · exact HRm.out.2 ⟨y, hy, h⟩
                      · exact absurd h Hd.out
                    case measure => simp [intOf]; omega
              · obtain rfl : j = S.F.length := by omega
                have hB10 := HB9.out.trans (HBz.out.mono HB9.out.size)
                have HB10 := Lib.hid hB10
                have hbz9 := HBz.out
                have HS10 := Lib.hid (HS9.out.below hbz9)
                have HA10 := Lib.hid (row_below HA9'.out hbz9)
                have v0 := old_cell hbz9 e0'
                have v1 := old_cell hbz9 e1'
                have v2 := old_cell hbz9 e2'
                obtain ⟨z0, z1, z2, z3, _, _, _, _⟩ := box4 (row_below (row_below HR.out HB9.out) hbz9)
                clear hB10 hbz9 hbz
                cases hin : inB xm 1 8192 with
                | false =>
                  have hin' := hin
                  obtain ⟨⟨hu, hz⟩, hT⟩ : (u = 0 ∧ z = 1) ∧ T = S := by
                    have h := HCr.out
                    rw [createS_bad hin] at h
                    injection h with h1 h2
                    injection h1 with h3 h4
                    exact ⟨⟨h3.symm, h4.symm⟩, h2.symm⟩
                  subst hu hz
                  have hb1 : ¬ (1 ≤ xm ∧ xm ≤ 8192) := by simpa [inB] using hin
                  by_cases hlo : xm < 1
                  · have hl1 : decide (xm < 1) = true := decide_eq_true hlo
                    clear hb1 hin hin' hlo
                    go_wp2_with fail
                    go_roundw
                    case rel => exact ⟨k + 1, q9, T, by omega, by omega, by go_num, HS10.out, HB10.out, HTn'.out, HT0'.out⟩
                    case measure => simp [intOf]; omega

                  · have hl1 : decide (xm < 1) = false := decide_eq_false hlo
                    have hl2 : decide (xm > 8192) = true := decide_eq_true (by omega)
                    have hl3 : decide (8192 < xm) = true := decide_eq_true (by omega)
                    clear hb1 hin hin' hlo
                    go_wp2_with fail
                    go_roundw
                    case rel => exact ⟨k + 1, q9, T, by omega, by omega, by go_num, HS10.out, HB10.out, HTn'.out, HT0'.out⟩
                    case measure => simp [intOf]; omega

                | true =>
                  obtain ⟨u0, u1, u8, um0, um6⟩ := up8_ok hin
                  have hb1 : 1 ≤ xm ∧ xm ≤ 8192 := by simpa [inB] using hin
                  obtain ⟨hb10, hb11⟩ := hb1
                  have hl1 : decide (xm < 1) = false := decide_eq_false (by omega)
                  have hl2 : decide (xm > 8192) = false := decide_eq_false (by omega)
                  have hZ := HZ.out hin
                  have HZ' := Lib.hid hZ
                  have HU8 := Lib.hid (show 1 ≤ Z ∧ Z % 8 = 0 by rw [← hZ]; omega)
                  clear hZ u0 u1 u8 um0 um6
                  by_cases hKe : K = n
                  · skip
                    have HFr := HF2.out hKe
                    obtain ⟨⟨hu, hz⟩, hT⟩ : (u = 0 ∧ z = 13) ∧ T = S := by
                      have h := HCr.out
                      rw [createS_many hin HFr] at h
                      injection h with h1 h2
                      injection h1 with h3 h4
                      exact ⟨⟨h3.symm, h4.symm⟩, h2.symm⟩
                    subst hu hz
                    have hKne : ((K : Int) == (n : Int)) = true := by simp; omega
                    clear hin HFr
                    go_wp2_with fail
                    go_roundw
                    case rel => exact ⟨k + 1, q9, T, by omega, by omega, by go_num, HS10.out, HB10.out, HTn'.out, HT0'.out⟩
                    case measure => simp [intOf]; omega

                  · have hKlt : K < n := by omega
                    have hKne : ((K : Int) == (n : Int)) = false := by simp; omega
                    obtain ⟨s, hs, hst, hfr⟩ := HF1.out hKlt
                    have Hs := Lib.hid hs
                    have Hst := Lib.hid hst
                    have HFr := Lib.hid hfr
                    have hK8 : (K : Int) < 8 := by omega
                    clear hs hst hfr hKe
                    have hrm := HRm.out
                    rw [List.take_length, ← carve_iff HU8.out, ← HZ'.out] at hrm
                    have hcr := HCr.out
                    rw [createS_at hin HFr.out Hs.out] at hcr
                    cases rm with
                    | false =>
                      have hcf : (carveF (up8 xm) S.F).2.1 = false := by
                        cases hq : (carveF (up8 xm) S.F).2.1 with
                        | false => rfl
                        | true => exact absurd (hrm.2 hq) (by simp)
                      obtain ⟨⟨hu, hz⟩, hT⟩ : (u = 0 ∧ z = 14) ∧ T = S := by
                        rw [if_neg (by rw [hcf]; simp)] at hcr
                        injection hcr with h1 h2
                        injection h1 with h3 h4
                        exact ⟨⟨h3.symm, h4.symm⟩, h2.symm⟩
                      subst hu hz
                      clear hrm hcr hcf
                      go_wp2_with fail
                      go_roundw
                      case rel => exact ⟨k + 1, q9, T, by omega, by omega, by go_num, HS10.out, HB10.out, HTn'.out, HT0'.out⟩
                      case measure => simp [intOf]; omega
                    | true =>
                      have hcf := hrm.1 rfl
                      rw [if_pos hcf] at hcr
                      obtain ⟨⟨hu, hz⟩, hT⟩ : (u = (K : Int) ∧ z = 0) ∧ T.l = S.l.set K ⟨⟨1, s.c.n, s.c.p, s.c.ep⟩, ((carveF (up8 xm) S.F).1, up8 xm)⟩ := by
                        injection hcr with h1 h2
                        injection h1 with h3 h4
                        exact ⟨⟨h3.symm, h4.symm⟩, by rw [← h2]⟩
                      subst hu hz
                      have hso := (HS.out.ok s (List.mem_of_getElem? Hs.out)).r
                      obtain ⟨hsn, hsp⟩ : s.c.n = 0 ∧ s.c.p = -1 := by
                        obtain ⟨_, _, h3⟩ := hso
                        have := Hst.out
                        omega
                      have hTK : T.l[K]? = some ⟨⟨1, 0, -1, s.c.ep⟩, ((carveF (up8 xm) S.F).1, up8 xm)⟩ := by
                        rw [hT, List.getElem?_set, if_pos rfl, if_pos (by rw [Hn.out]; exact hKlt), hsn, hsp]
                      have hinK : inS K 0 T = true := by
                        have := HTn'.out
                        simp only [inS, inB, decide_eq_true_eq]
                        omega
                      have HCK := Lib.hid (show ctlS K T = (⟨1, 0, -1, s.c.ep⟩, 0) by unfold ctlS; rw [if_neg (by rw [hinK]; simp), Int.toNat_natCast, hTK])
                      have HXK := Lib.hid (show extS K T = (((carveF (up8 xm) S.F).1, up8 xm), 0) by unfold extS; rw [if_neg (by rw [hinK]; simp), Int.toNat_natCast, hTK])
                      have hce : ctlEq ⟨1, 0, -1, s.c.ep⟩ ⟨1, 0, -1, s.c.ep⟩ = true := by simp [ctlEq]
                      clear hrm hcr hcf hso hsn hsp hTK hinK hT
                      obtain ⟨at_, HAt⟩ : ∃ a, Hid ((carveF (up8 xm) S.F).1 = a) := ⟨_, rfl⟩
                      have hKu : ((K : Int) != (K : Int)) = false := by simp
                      go_wp2_with fail
                      refine (ctl_any _ p b g q9 f e T K _ HS10.out).mono ?_
                      rintro r w11 ⟨rfl, hb11'⟩
                      rw [HCK.out]
                      have HX11 := Lib.hid (show Below w11.heap.size w11 (w11.alloc (.cells #[.int .i64 1, .int .i64 0, .int .i64 (-1), .int .i64 s.c.ep] 43)) by go_grown)
                      have HS11 := Lib.hid ((HS10.out.below hb11').below HX11.out)
                      have HB11 := Lib.hid (HB10.out.trans ((below_only hb11' HX11.out).mono HB10.out.size))
                      have HA11 := Lib.hid (row_below (row_below HA10.out hb11') HX11.out)
                      have HN11 := Lib.hid (row_new w11 #[.int .i64 1, .int .i64 0, .int .i64 (-1), .int .i64 s.c.ep] 43)
                      clear hb11'
                      go_wp2_with fail
                      refine (ext_any _ p b g q9 f e T K _ HS11.out).mono ?_
                      rintro r w12 ⟨rfl, hb12⟩
                      rw [HXK.out, HAt.out, HZ'.out]
                      have HX12 := Lib.hid (show Below w12.heap.size w12 (w12.alloc (.cells #[.int .i64 at_, .int .i64 Z] 32)) by go_grown)
                      have HS12 := Lib.hid ((HS11.out.below hb12).below HX12.out)
                      have HB12 := Lib.hid (HB11.out.trans ((below_only hb12 HX12.out).mono HB11.out.size))
                      have HA12 := Lib.hid (show AllRow (w12.alloc (.cells #[.int .i64 at_, .int .i64 Z] 32)) w5.heap.size (padC S.l) (padX S.l) from row_below (row_below HA11.out hb12) HX12.out)
                      have HN12 := Lib.hid (row_below (row_below HN11.out hb12) HX12.out)
                      have HE12 := Lib.hid (row_new w12 #[.int .i64 at_, .int .i64 Z] 32)
                      clear hb12
                      obtain ⟨m0', m1', m2', m3', _, _, _, _⟩ := box4 HN12.out
                      obtain ⟨f0', f1', _, _⟩ := box2 HE12.out
                      obtain ⟨t0', t1', t2', t3'⟩ := all_cellsC HA12.out (padC_get Hs.out)
                      go_wp2_with fail
                      go_quiet (fail)
                      go_wp2
                      go_roundw
                      case rel => exact ⟨k + 1, q9, T, by omega, by omega, by go_num, HS12.out.below (by repeat (first | exact Below.refl _ _ | refine below_drewN ?_ _ | refine Below.drew ?_)), (by repeat (first | exact HB12.out | refine below_drewN ?_ _ | refine Below.drew ?_)), HTn'.out, HT0'.out⟩
                      case measure => simp [intOf]; omega
      · have hne7 : (xk % 7 != 0) = true := by simpa using hk7
        clear hk7
        go_wp2_with fail
        go_roundw
        case rel => exact ⟨k + 1, q9, T, by omega, by omega, by go_num, HS9.out, HB9.out, HTn'.out, HT0'.out⟩
        case measure => simp [intOf]; omega
    · have hex : ¬ k < l.length ∨ (k < l.length ∧ ¬ k < 60) := by omega
      clear hgo
      rcases hex with h1 | ⟨h1, h2⟩
      all_goals
        go_wp2
        go_ret
        exact ⟨rfl, below_only HBW.out HB.out⟩

end Go.Proofs.Ytcicpfhbpcdjcaa
