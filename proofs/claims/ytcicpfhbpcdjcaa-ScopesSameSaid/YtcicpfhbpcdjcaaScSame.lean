/- The walk of ScopesSame. -/
import Derived.Test.YtcicpfhbpcdjcaaScOpen
namespace Go.Proofs.Ytcicpfhbpcdjcaa
open Go.RowKit
/- Two rows of scopes beside each other. -/
structure TwoS (B : Nat) (w : World) (p1 b1 g1 : Nat) (q1 : Option Nat) (p2 b2 g2 : Nat) (q2 : Option Nat) (f e : Int) (S T : Sco) : Prop where
  s : Scs B w p1 b1 g1 q1 f e S
  t : Scs B w p2 b2 g2 q2 f e T
  st : ∀ i, i ∈ p1 :: ScT b1 g1 q1 → i ∉ p2 :: ScT b2 g2 q2

section
variable {B p1 b1 g1 p2 b2 g2 : Nat} {q1 q2 : Option Nat} {f e : Int} {S T : Sco} {w w' : World}
theorem Scs.all_lt {p b g : Nat} {q : Option Nat} (h : Scs B w p b g q f e S) {i : Nat} (hi : i ∈ p :: ScT b g q) : i < w.heap.size := by
  obtain ⟨h1, h2, h3, h4⟩ := h.lt
  rcases List.mem_cons.1 hi with rfl | hi
  · exact h1
  · rcases List.mem_cons.1 hi with rfl | hi
    · exact h2
    · rcases List.mem_cons.1 hi with rfl | hi
      · exact h3
      · exact (h4 i (by simpa using hi)).1
theorem Scs.keep_all {p b g : Nat} {q : Option Nat} {X : List Nat} (h : Scs B w p b g q f e S) (k : Keep X w w') (hx : ∀ i, i ∈ p :: ScT b g q → i ∉ X) : Scs B w' p b g q f e S :=
  h.kept k (hx _ (by simp)) (hx _ (by simp)) (hx _ (by simp)) (fun i hi => hx _ (by simp [hi]))
theorem TwoS.below (h : TwoS B w p1 b1 g1 q1 p2 b2 g2 q2 f e S T) (hb : Below w.heap.size w w') : TwoS B w' p1 b1 g1 q1 p2 b2 g2 q2 f e S T := ⟨h.s.below hb, h.t.below hb, h.st⟩
theorem TwoS.swap (h : TwoS B w p1 b1 g1 q1 p2 b2 g2 q2 f e S T) : TwoS B w p2 b2 g2 q2 p1 b1 g1 q1 f e T S := ⟨h.t, h.s, fun i h1 h2 => h.st i h2 h1⟩
theorem TwoS.step {q' : Option Nat} {S' : Sco} (h : TwoS B w p1 b1 g1 q1 p2 b2 g2 q2 f e S T) (hs : Scs B w' p1 b1 g1 q' f e S') (hq : Fresh w q1 q') (k : Keep (ScT b1 g1 q1) w w') : TwoS B w' p1 b1 g1 q' p2 b2 g2 q2 f e S' T := by
  refine ⟨hs, h.t.keep_all k (fun i h2 h1 => h.st i (List.mem_cons_of_mem _ h1) h2), fun i h1 h2 => ?_⟩
  have hlt := h.t.all_lt h2
  rcases List.mem_cons.1 h1 with rfl | h1
  · exact h.st _ (by simp) h2
  · rcases List.mem_cons.1 h1 with rfl | h1
    · exact h.st _ (by simp) h2
    · rcases List.mem_cons.1 h1 with rfl | h1
      · exact h.st _ (by simp) h2
      · rcases hq i (by simpa using h1) with h3 | h3
        · exact h.st i (by simp [h3]) h2
        · omega
theorem TwoS.first {B' : Nat} (h1 : Scs B w p1 b1 g1 q1 f e S) (h2 : Scs w.heap.size w' p2 b2 g2 q2 f e T) (hb : Below w.heap.size w w') (hB : B ≤ w.heap.size) (_ : B' = B) : TwoS B w' p1 b1 g1 q1 p2 b2 g2 q2 f e S T := by
  refine ⟨h1.below hb, { h2 with gr := h2.gr.lower hB, low := Nat.le_trans hB h2.low, lowb := Nat.le_trans hB h2.lowb }, fun i hi hj => ?_⟩
  have hlt := h1.all_lt hi
  rcases List.mem_cons.1 hj with rfl | hj
  · have := h2.low; omega
  · have := h2.turns i hj
    omega
end

set_option maxRecDepth 100000 in
set_option maxHeartbeats 8000000 in
theorem scopesSame_walk (qs qt qi qh : Int) (A : Option Addr) (c : Nat) (l : List GOp) (w : World) (_ : (Lit.int .i64 qs).wf = true) (_ : (Lit.int .i64 qt).wf = true) (_ : (Lit.int .i64 qi).wf = true) (_ : (Lit.int .i64 qh).wf = true)
    (_ : l.length ≤ c) (_ : c ≤ maxLen) (he : Cells w A (l.flatMap gopCells)) (hq : ∀ e ∈ l, GOpOk e) :
    Calls Try.prog 9 #[.agg #[.int .i64 qs, .int .i64 qt, .int .i64 qi, .int .i64 qh], .slice A l.length c] w fun e w' => e = .returned (.bool true) ∧ Below w.heap.size w w' := by
  have Hq := Lib.hid hq
  have He := Lib.hid he
  clear hq he
  obtain ⟨n, t, i, m, HPf, hP⟩ : ∃ (n : Nat) (t i m : Int), Hid (fitP ⟨qs, qt, qi, qh⟩ = ⟨n, t, i, m⟩) ∧ PlnOk ⟨n, t, i, m⟩ := by
    have h := fitP_ok ⟨qs, qt, qi, qh⟩
    refine ⟨(fitP ⟨qs, qt, qi, qh⟩).s.toNat, (fitP ⟨qs, qt, qi, qh⟩).t, (fitP ⟨qs, qt, qi, qh⟩).i, (fitP ⟨qs, qt, qi, qh⟩).h, ?_, ?_⟩
    · have := h.1
      rw [Int.toNat_of_nonneg (by omega)]
      exact rfl
    · have := h.1
      rw [Int.toNat_of_nonneg (by omega)]
      exact h
  have HP := Lib.hid hP
  obtain ⟨i0e, hi0e, hz0e, hz1e, hz2e⟩ := info_parts infoExt
  obtain ⟨n1, n8, t1, t4, i0, i1, m0, m1, _, _⟩ := hP
  dsimp only at n1 n8 t1 t4 i0 i1 m0 m1
  have n1' : 1 ≤ n := by omega
  have n8' : n ≤ 8 := by omega
  have HW0 := Lib.hid (show Below w.heap.size w (w.alloc (.cells #[.int .i64 qs, .int .i64 qt, .int .i64 qi, .int .i64 qh] 23)) by go_grown)
  have HR0 := Lib.hid (row_new w #[.int .i64 qs, .int .i64 qt, .int .i64 qi, .int .i64 qh] 23)
  go_enter Try.func9, Try.ntmps9
  go_wp2_with fail
  refine (shown_any _).mono ?_
  rintro r w1 ⟨rfl, hb⟩
  have HB1 := Lib.hid (below_only HW0.out hb)
  have HR1 := Lib.hid (row_below HR0.out hb)
  obtain ⟨pc0, pc1, pc2, pc3, _, _, _, _⟩ := box4 HR1.out
  clear hb
  go_wp2_with fail
  refine (fit_plan ⟨qs, qt, qi, qh⟩ _).mono ?_
  rintro r w2 ⟨rfl, hb⟩
  rw [HPf.out]
  have HX2 := Lib.hid (show Below w2.heap.size w2 (w2.alloc (.cells #[.int .i64 n, .int .i64 t, .int .i64 i, .int .i64 m] 23)) by go_grown)
  have HB2 := Lib.hid (below_only (below_only HB1.out hb) HX2.out)
  have HR2 := Lib.hid (row_new w2 #[.int .i64 n, .int .i64 t, .int .i64 i, .int .i64 m] 23)
  clear hb pc0 pc1 pc2 pc3
  go_wp2_with fail
  refine (snew_any ⟨n, t, i, m⟩ _ HP.out).mono ?_
  rintro r w4 ⟨p, b, g, q, rfl, hS, hb⟩
  dsimp only at hS
  obtain ⟨f, Hf⟩ : ∃ f, Hid ((n : Int) * 64 + i = f) := ⟨_, rfl⟩
  obtain ⟨e, He4⟩ : ∃ e, Hid ((n : Int) * 64 + i + m = e) := ⟨_, rfl⟩
  rw [Hf.out, show f + m = e by rw [← Hf.out, ← He4.out]] at hS
  obtain ⟨W, HW⟩ : ∃ W, Hid (w2.alloc (.cells #[.int .i64 n, .int .i64 t, .int .i64 i, .int .i64 m] 23) = W) := ⟨_, rfl⟩
  rw [HW.out] at hS hb
  have HBW := Lib.hid (show Below w.heap.size w W by rw [← HW.out]; exact HB2.out)
  have HR := Lib.hid (show W.heap[w2.heap.size]? = some (.cells #[.int .i64 n, .int .i64 t, .int .i64 i, .int .i64 m] 23 (0, 0)) by rw [← HW.out]; exact HR2.out)
  have HS4 := Lib.hid hS
  have HB4 := Lib.hid hb
  have hWw := HBW.out.size
  obtain ⟨pc0, pc1, pc2, pc3, _, _, _, _⟩ := box4 (row_below HR.out HB4.out)
  clear hS hb
  have HP2 := HP.out
  go_wp2_with fail
  refine (snew_any ⟨n, t, i, m⟩ _ HP2).mono ?_
  rintro r w5 ⟨p2, b2, g2, q2, rfl, hS, hb⟩
  dsimp only at hS
  rw [Hf.out, show f + m = e by rw [← Hf.out, ← He4.out]] at hS
  have HT := Lib.hid (TwoS.first (B' := W.heap.size) HS4.out hS hb HB4.out.size rfl)
  have HB5 := Lib.hid (HB4.out.trans (hb.mono HB4.out.size))
  clear hS hb HP2
  go_wp2_with fail
  go_loopw [11] (fun tt wr => ∃ (k : Nat) (q q2 : Option Nat) (S : Sco), k ≤ l.length ∧ k ≤ 60 ∧ tt = .int .i64 k ∧ TwoS W.heap.size wr p b g q p2 b2 g2 q2 f e S S ∧ Below W.heap.size W wr ∧ S.l.length = n)
    (fun tt _ => l.length - (intOf tt).toNat)
  case atStart => exact ⟨0, q, q2, _, Nat.zero_le _, by omega, rfl, HT.out, HB5.out, new_len n n1' t i m⟩
  case round =>
    obtain ⟨k, q, q2, S, hkl, hk60, rfl, hT, hB, hn⟩ := hrel
    have HT := Lib.hid hT
    have HB := Lib.hid hB
    have Hn := Lib.hid hn
    have hS8 : S.l.length ≤ 8 := by rw [hn]; exact n8'
    have HRr := Lib.hid (row_below HR.out hB)
    obtain ⟨y0, y1, y2, y3, _, _, _, _⟩ := box4 HRr.out
    clear hT hB hn pc0 pc1 pc2 pc3
    by_cases hgo : k < l.length ∧ k < 60
    · obtain ⟨hlt, hlt60⟩ := hgo
      obtain ⟨bA, off, rfl, hbl, hcl⟩ := gops_at He.out (by omega)
      obtain ⟨x, hx⟩ : ∃ x, l[k]? = some x := ⟨_, List.getElem?_eq_getElem hlt⟩
      obtain ⟨⟨xk0, xk1⟩, xi, xn⟩ := Hq.out x (List.mem_of_getElem? hx)
      obtain ⟨c0, c1, c2⟩ := hcl k x hx
      obtain ⟨xk, xs, xm⟩ := x
      dsimp only at xk0 xk1 xi xn c0 c1 c2
      have HBw := Lib.hid (show Below w.heap.size w wr from below_only HBW.out HB.out)
      have hcx := HBw.out
      have d0 := old_cell hcx c0
      have d1 := old_cell hcx c1
      have d2 := old_cell hcx c2
      have C0 := Lib.hid c0
      have C1 := Lib.hid c1
      have C2 := Lib.hid c2
      clear hcl hx c0 c1 c2 hcx
      have HTn := Lib.hid ((doesS_len f e xk xs xm S).trans Hn.out)
      have HTr := Lib.hid (doesS_refused (f := f) (e := e) (k := xk) (i := xs) (n := xm) (S := S))
      obtain ⟨u, z, T, HD⟩ : ∃ u z T, Hid (doesS f e (xk, xs, xm) S = ((u, z), T)) := ⟨_, _, _, rfl⟩
      have HTn' := Lib.hid (show T.l.length = n by have := HTn.out; rw [HD.out] at this; exact this)
      have HTr' := Lib.hid (show z ≠ 0 → T = S by have := HTr.out; rw [HD.out] at this; exact this)
      clear HTn HTr
      go_wp2_with fail
      refine (does_any _ p b g q f e S xk xs xm _ xk0 xk1 HT.out.s).mono ?_
      rintro r w6 ⟨rfl, ⟨q6, hS6, hq6⟩, hk6⟩
      rw [HD.out] at hS6 ⊢
      have HT6 := Lib.hid (HT.out.step hS6 hq6 hk6)
      have HB6 := Lib.hid (HT.out.s.keep_below HB.out hk6)
      have hbw := below_only HBW.out HB6.out
      have d0' := old_cell hbw C0.out
      have d1' := old_cell hbw C1.out
      have d2' := old_cell hbw C2.out
      clear d0 d1 d2 hS6 hq6 hk6 hbw y0 y1 y2 y3
      by_cases hz : z = 0
      · subst hz
        go_wp2_with fail
        refine (does_any _ p2 b2 g2 q2 f e S xk xs xm _ xk0 xk1 HT6.out.t).mono ?_
        rintro r w7 ⟨rfl, ⟨q7, hS7, hq7⟩, hk7⟩
        rw [HD.out] at hS7 ⊢
        have HT7 := Lib.hid ((HT6.out.swap.step hS7 hq7 hk7).swap)
        have HB7 := Lib.hid (HT6.out.t.keep_below HB6.out hk7)
        clear d0' d1' d2' hS7 hq7 hk7
        go_wp2_with fail
        go_roundw
        case rel => exact ⟨k + 1, q6, q7, T, by omega, by omega, by go_num, HT7.out, HB7.out, HTn'.out⟩
        case measure => simp [intOf]; omega
      · have hz' : (z != 0) = true := by simpa using hz
        obtain rfl := HTr'.out hz
        clear hz
        go_wp2_with fail
        go_roundw
        case rel => exact ⟨k + 1, q6, q2, T, by omega, by omega, by go_num, HT6.out, HB6.out, HTn'.out⟩
        case measure => simp [intOf]; omega
    · have hex : ¬ k < l.length ∨ (k < l.length ∧ ¬ k < 60) := by omega
      clear hgo
      have hF := HT.out.s.gr.size
      have HF := Lib.hid hF
      rcases hex with h1 | ⟨h1, h2⟩
      all_goals
        go_wp2_with fail
        refine (sfree_any _ p b g q f e S _ HT.out.s).mono ?_
        rintro r w6 ⟨v, rfl, A6, c6, rfl, hc6, hcs6, _, hb6⟩
        have HT6 := Lib.hid (HT.out.below hb6)
        have HB6 := Lib.hid (HB.out.trans (hb6.mono HB.out.size))
        have HC6 := Lib.hid hcs6
        clear hb6 hcs6
        go_wp2_with fail
        refine (sfree_any _ p2 b2 g2 q2 f e S _ HT6.out.t).mono ?_
        rintro r w7 ⟨v, rfl, A7, c7, rfl, hc7, hcs7, _, hb7⟩
        have HT7 := Lib.hid (HT6.out.below hb7)
        have HB7 := Lib.hid (HB6.out.trans (hb7.mono HB6.out.size))
        have HC7 := Lib.hid hcs7
        have HC6' := Lib.hid (HC6.out.below hb7)
        clear hb7 hcs7
        go_wp2_with fail
        refine (same_any A6 A7 c6 c7 S.F S.F _ (by omega) (by omega) HC6'.out HC7.out).mono ?_
        rintro r w8 ⟨rfl, hb8⟩
        have hsame : decide (S.F = S.F) = true := decide_eq_true rfl
        rw [hsame]
        have HT8 := Lib.hid (HT7.out.below hb8)
        have HB8 := Lib.hid (HB7.out.trans (hb8.mono HB7.out.size))
        clear hb8 y0 y1 y2 y3
        obtain ⟨y0, y1, y2, y3, _, _, _, _⟩ := box4 (row_below HR.out HB8.out)
        go_wp2_with fail
        have HT8d := Lib.hid (HT8.out.below (Below.drew (Below.refl w8.heap.size w8)))
        go_region_held3 (fun V => V.cell? ⟨w2.heap.size, 0, none⟩ = some (.int .i64 n) ∧ V.cell? ⟨w2.heap.size, 1, none⟩ = some (.int .i64 t) ∧ V.cell? ⟨w2.heap.size, 2, none⟩ = some (.int .i64 i) ∧ V.cell? ⟨w2.heap.size, 3, none⟩ = some (.int .i64 m))
          (refine ⟨?_, ?_, ?_, ?_⟩ <;> assumption)
          (first
            | (go_at_call 22; with_reducible refine (seen_any _ p b g q f e S ⟨n, t, i, m⟩ _ HT8d.out.s (by rw [Hn.out])).mono ?_; rintro r w9 ⟨rfl, hb9⟩; have HT9 := Lib.hid (HT8d.out.below hb9); have hb9' := below_drew_of hb9; have HB9 := Lib.hid (HB8.out.trans (hb9'.mono HB8.out.size)); have y0' := old_cell hb9' y0; have y1' := old_cell hb9' y1; have y2' := old_cell hb9' y2; have y3' := old_cell hb9' y3; clear hb9 hb9')
            | (go_at_call 22; with_reducible refine (seen_any _ p2 b2 g2 q2 f e S ⟨n, t, i, m⟩ _ HT9.out.t (by rw [Hn.out])).mono ?_; rintro r w10 ⟨rfl, hb10⟩; have HB10 := Lib.hid (HB9.out.trans (hb10.mono HB9.out.size)); have y0'' := old_cell hb10 y0'; have y1'' := old_cell hb10 y1'; have y2'' := old_cell hb10 y2'; have y3'' := old_cell hb10 y3'; clear hb10))
        go_wp2
        go_ret
        exact ⟨rfl, below_only HBW.out HB10.out⟩

end Go.Proofs.Ytcicpfhbpcdjcaa
