/- The law CtlRounds's walk: two loops. -/
import Derived.Test.YtgghnlmlgidooaaCtlStatesW
namespace Go.Proofs.Ytgghnlmlgidooaa
open Go.RowKit

attribute [local go_sem] mask24

theorem row_four {w : World} {g : Nat} {a b c d a' b' c' d' : Value} {t : TypeId} (h : w.heap[g]? = some (.cells #[a, b, c, d] t (0, 0))) :
    ((((w.setCell ⟨g, 0, none⟩ a').setCell ⟨g, 1, none⟩ b').setCell ⟨g, 2, none⟩ c').setCell ⟨g, 3, none⟩ d').heap[g]? = some (.cells #[a', b', c', d'] t (0, 0)) := by
  have := row_set (i := 3) (row_set (i := 2) (row_set (i := 1) (row_set (i := 0) h a') b') c') d'
  simpa using this

set_option maxRecDepth 100000 in
set_option maxHeartbeats 1000000 in
theorem ctlRounds_core (e n m : Int) (w : World) (n0 : 0 ≤ n) (n1 : n ≤ 255) (m0 : 0 ≤ m) (m1 : m ≤ 255) :
    Calls Try.prog 5 #[.int .i64 e, .int .u8 n, .int .u8 m] w fun e w' => e = .returned (.bool true) ∧ Below w.heap.size w w' := by
  have f0 : 0 ≤ m % 8 := by omega
  have f1 : m % 8 ≤ 7 := by omega
  have e0 : 0 ≤ e % 16777216 := by omega
  have e1 : e % 16777216 ≤ 16777215 := by omega
  have k0 : 1 ≤ 1 + n % 7 := by omega
  have k1 : 1 + n % 7 ≤ 7 := by omega
  go_enter Try.func5, Try.ntmps5
  go_wp2_with fail
  refine (shown_any _).mono ?_
  rintro r w1 ⟨rfl, hb⟩
  have hz := hb.size
  go_wp2_with fail
  go_loopw [12] (fun i wr => ∃ k s c p : Int, 0 ≤ k ∧ k ≤ 1 + n % 7 ∧ i = .int .i64 k ∧ (k = 0 ∧ s = 1 ∧ c = 0 ∧ p = -1 ∨ 1 ≤ k ∧ s = 2 ∧ c = k ∧ p = m % 8) ∧
      wr.heap[w1.heap.size]? = some (.cells #[.int .i64 s, .int .i64 c, .int .i64 p, .int .i64 (e % 16777216)] 23 (0, 0)) ∧ Below w.heap.size w wr)
    (fun i _ => (9 - intOf i).toNat)
  case atStart => exact ⟨0, 1, 0, -1, by omega, by omega, rfl, Or.inl ⟨rfl, rfl, rfl, rfl⟩, row_new _ _ _, by go_grown⟩
  case round =>
    obtain ⟨k, s, c, p, kk0, kk1, rfl, hs, hrow, hB⟩ := hrel
    by_cases hlt : k < 1 + n % 7
    · have HE := Lib.hid (show enter ⟨s, c, p, e % 16777216⟩ (m % 8) = (⟨2, k + 1, m % 8, e % 16777216⟩, 0) by
        rcases hs with ⟨rfl, rfl, rfl, rfl⟩ | ⟨h1, rfl, rfl, rfl⟩
        · simp [enter, right_idle e0 e1, f0, f1]
        · have hr : Right ⟨2, c, m % 8, e % 16777216⟩ := right_live h1 (by omega) (by omega) (by omega) e0 e1
          simp [enter, hr, f0, f1, show ¬ c = 7 by omega])
      obtain ⟨c_0, c_1, c_2, c_3, c_f0, c_f1, c_f2, c_f3⟩ := box4 hrow
      have Hrow := Lib.hid hrow
      have z := lt_of_heap hrow
      clear hs hrow
      go_wp2_with fail
      have R := Hrow.out
      clear Hrow c_0 c_1 c_2 c_3 c_f0 c_f1 c_f2 c_f3
      refine (enter_as HE _).mono ?_
      rintro r w2 ⟨rfl, hb2⟩
      replace R := row_below R hb2
      replace hB := below_only hB hb2
      clear hb2 z
      obtain ⟨c_0, c_1, c_2, c_3, c_f0, c_f1, c_f2, c_f3⟩ := box4 R
      have z := lt_of_heap R
      have Hrow := Lib.hid R
      clear R
      go_wp2_with fail
      go_roundw
      case rel =>
        exact ⟨k + 1, 2, k + 1, m % 8, by omega, by omega, rfl, Or.inr ⟨by omega, rfl, rfl, rfl⟩, row_alloc (row_four Hrow.out), by go_grown⟩
      case measure => simp [intOf]; omega
    · obtain rfl : k = 1 + n % 7 := by omega
      obtain ⟨rfl, rfl, rfl⟩ : s = 2 ∧ c = 1 + n % 7 ∧ p = m % 8 := by omega
      have Hrow := Lib.hid hrow
      clear hs hrow
      go_wp2_with fail
      go_loopw [15] (fun i wr => ∃ j s q : Int, 0 ≤ j ∧ j ≤ 1 + n % 7 ∧ i = .int .i64 j ∧ q = 1 + n % 7 - j ∧ (j < 1 + n % 7 ∧ s = 2 ∨ j = 1 + n % 7 ∧ s = 3) ∧
          wr.heap[w1.heap.size]? = some (.cells #[.int .i64 s, .int .i64 q, .int .i64 (m % 8), .int .i64 (e % 16777216)] 23 (0, 0)) ∧ Below w.heap.size w wr)
        (fun i _ => (9 - intOf i).toNat)
      case atStart => exact ⟨0, 2, _, by omega, by omega, rfl, by omega, Or.inl ⟨by omega, rfl⟩, Hrow.out, hB⟩
      case round =>
        obtain ⟨j, s, q, j0, j1, rfl, hq, hs, hrow, hB⟩ := hrel
        clear Hrow
        by_cases hlt : j < 1 + n % 7
        · obtain rfl : s = 2 := by omega
          have hr : Right ⟨2, q, m % 8, e % 16777216⟩ := right_live (by omega) (by omega) (by omega) (by omega) e0 e1
          obtain ⟨s', HL, h1, h2⟩ : ∃ s', Hid (leave ⟨2, q, m % 8, e % 16777216⟩ = (⟨s', q - 1, m % 8, e % 16777216⟩, 0)) ∧ ((s' == 3) = (j == 1 + n % 7 - 1)) ∧ (j + 1 < 1 + n % 7 ∧ s' = 2 ∨ j + 1 = 1 + n % 7 ∧ s' = 3) := by
            by_cases hl : q = 1
            · refine ⟨3, Lib.hid (by subst hl; simp [leave, ofState, hr]), ?_, by omega⟩
              have : (j == 1 + n % 7 - 1) = true := by simp; omega
              rw [this]; rfl
            · refine ⟨2, Lib.hid (by simp [leave, ofState, hr, hl]), ?_, by omega⟩
              have : (j == 1 + n % 7 - 1) = false := by simp; omega
              rw [this]; rfl
          have h3 : (q - 1 != 1 + n % 7 - 1 - j) = false := by simp; omega
          have H2 := Lib.hid h2
          have Hq := Lib.hid hq
          obtain ⟨c_0, c_1, c_2, c_3, c_f0, c_f1, c_f2, c_f3⟩ := box4 hrow
          have Hrow := Lib.hid hrow
          have z := lt_of_heap hrow
          have q0 : 1 ≤ q := by omega
          have q1 : q ≤ 7 := by omega
          clear hs hrow h2 hr hq
          go_wp2_with fail
          have R := Hrow.out
          clear Hrow c_0 c_1 c_2 c_3 c_f0 c_f1 c_f2 c_f3
          refine (leave_as HL _).mono ?_
          rintro r w2 ⟨rfl, hb2⟩
          replace R := row_below R hb2
          replace hB := below_only hB hb2
          clear hb2 z
          obtain ⟨c_0, c_1, c_2, c_3, c_f0, c_f1, c_f2, c_f3⟩ := box4 R
          have z := lt_of_heap R
          have Hrow := Lib.hid R
          clear R
          go_wp2_with fail
          go_roundw
          case rel =>
            have := Hq.out
            exact ⟨j + 1, s', q - 1, by omega, by omega, rfl, by omega, H2.out, row_alloc (row_four Hrow.out), by go_grown⟩
          case measure => simp [intOf]; omega
        · obtain rfl : j = 1 + n % 7 := by omega
          obtain ⟨rfl, rfl⟩ : s = 3 ∧ q = 0 := by omega
          have hr : Right ⟨3, 0, m % 8, e % 16777216⟩ := right_drain (by omega) (by omega) e0 e1
          have HO := Lib.hid (show openC ⟨3, 0, m % 8, e % 16777216⟩ = (⟨1, 0, -1, (e % 16777216 + 1) % 16777216⟩, 0) by simp [openC, ofState, hr])
          obtain ⟨c_0, c_1, c_2, c_3, c_f0, c_f1, c_f2, c_f3⟩ := box4 hrow
          have z := lt_of_heap hrow
          clear hs hrow hr hq
          go_wp2_with fail
          clear c_0 c_1 c_2 c_3 c_f0 c_f1 c_f2 c_f3
          refine (open_as HO _).mono ?_
          rintro r w2 ⟨rfl, hb2⟩
          replace hB := below_only hB hb2
          have hz2 := hB.size
          clear hb2 z
          go_wp2_with fail
          go_ret
          exact ⟨rfl, by go_grown⟩

theorem ctlRounds_walk (e n m : Int) (w : World) (_ : (Lit.int .i64 e).wf = true) (hn : (Lit.int .u8 n).wf = true) (hm : (Lit.int .u8 m).wf = true) :
    Calls Try.prog 5 #[.int .i64 e, .int .u8 n, .int .u8 m] w fun e w' => e = .returned (.bool true) ∧ Below w.heap.size w w' :=
  ctlRounds_core e n m w (wf_u8 hn).1 (wf_u8 hn).2 (wf_u8 hm).1 (wf_u8 hm).2

end Go.Proofs.Ytgghnlmlgidooaa
