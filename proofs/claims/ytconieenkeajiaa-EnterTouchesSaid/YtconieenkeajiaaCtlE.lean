/- The walks of the reference for control words: Right, Pack, Unpack, Enter, Leave, Open, Hold, Fit. -/
import Derived.Test.YtconieenkeajiaaCtlD
namespace Go.Proofs.Ytconieenkeajiaa
open Go.RowKit

theorem right_eq2 {s n p e : Int} (he : 0 ≤ e ∧ e ≤ 16777215) : rightB ⟨s, n, p, e⟩ = (if s = 0 ∨ s = 1 then decide (n = 0 ∧ p = -1) else if s = 2 then decide (1 ≤ n ∧ n ≤ 7 ∧ -1 ≤ p ∧ p ≤ 7) else if s = 3 then decide (n = 0 ∧ -1 ≤ p ∧ p ≤ 7) else false) := by
  rw [right_eq he]
  rcases state_cases s with rfl | rfl | rfl | rfl | h
  case inr.inr.inr.inr =>
    rw [kindOf_other h]
    simp at h
    simp [h]
  all_goals simp [kindOf]

set_option maxRecDepth 100000 in
set_option maxHeartbeats 2000000 in
theorem rright_any (s n p e : Int) (w : World) :
    Calls Try.prog 30 #[.agg #[.int .i64 s, .int .i64 n, .int .i64 p, .int .i64 e]] w fun r w' => r = .returned (.bool (rightB ⟨s, n, p, e⟩)) ∧ Below w.heap.size w w' := by
  by_cases he0 : e < 0
  · rw [rightB_f (fun h => by have := h.1; simp only at this; omega)]
    have hd : decide (e < 0) = true := decide_eq_true he0
    go_enter Try.func30, Try.ntmps30
    go_wp2
    go_ret
    exact ⟨rfl, by go_grown⟩
  have hd0 : decide (e < 0) = false := decide_eq_false he0
  by_cases he1 : 16777215 < e
  · rw [rightB_f (fun h => by have := h.2.1; simp only at this; omega)]
    have hd1 : decide (16777215 < e) = true := decide_eq_true he1
    go_enter Try.func30, Try.ntmps30
    go_wp2
    go_ret
    exact ⟨rfl, by go_grown⟩
  have hd1 : decide (16777215 < e) = false := decide_eq_false he1
  rw [right_eq2 (by omega)]
  clear he0 he1
  by_cases hp0 : -1 ≤ p
  · have dp0 : decide (-1 ≤ p) = true := decide_eq_true hp0
    rcases state_cases s with rfl | rfl | rfl | rfl | h
    · by_cases hn : n = 0
      · subst hn
        rw [show (if (0 : Int) = 0 ∨ (0 : Int) = 1 then _ else _ : Bool) = (p == -1) by simp; rfl]
        clear hp0
        go_enter Try.func30, Try.ntmps30
        go_wp2
        go_ret
        exact ⟨rfl, by go_grown⟩
      · have hn' : (n == 0) = false := by simpa using hn
        rw [show (if (0 : Int) = 0 ∨ (0 : Int) = 1 then _ else _ : Bool) = false by simp [hn]]
        clear hn hp0
        go_enter Try.func30, Try.ntmps30
        go_wp2
        go_ret
        exact ⟨rfl, by go_grown⟩
    · by_cases hn : n = 0
      · subst hn
        rw [show (if (1 : Int) = 0 ∨ (1 : Int) = 1 then _ else _ : Bool) = (p == -1) by simp; rfl]
        clear hp0
        go_enter Try.func30, Try.ntmps30
        go_wp2
        go_ret
        exact ⟨rfl, by go_grown⟩
      · have hn' : (n == 0) = false := by simpa using hn
        rw [show (if (1 : Int) = 0 ∨ (1 : Int) = 1 then _ else _ : Bool) = false by simp [hn]]
        clear hn hp0
        go_enter Try.func30, Try.ntmps30
        go_wp2
        go_ret
        exact ⟨rfl, by go_grown⟩
    · by_cases h1 : 1 ≤ n
      · by_cases h2 : n ≤ 7
        · rw [show (if (2 : Int) = 0 ∨ (2 : Int) = 1 then _ else _ : Bool) = decide (p < 8) by simp [h1, h2, hp0]; omega]
          have dn1 : decide (1 ≤ n) = true := decide_eq_true h1
          have dn2 : decide (n ≤ 7) = true := decide_eq_true h2
          clear h1 h2 hp0
          go_enter Try.func30, Try.ntmps30
          go_wp2
          go_ret
          exact ⟨rfl, by go_grown⟩
        · rw [show (if (2 : Int) = 0 ∨ (2 : Int) = 1 then _ else _ : Bool) = false by simp [h2]]
          have dn1 : decide (1 ≤ n) = true := decide_eq_true h1
          have dn2 : decide (n ≤ 7) = false := decide_eq_false h2
          clear h1 h2 hp0
          go_enter Try.func30, Try.ntmps30
          go_wp2
          go_ret
          exact ⟨rfl, by go_grown⟩
      · rw [show (if (2 : Int) = 0 ∨ (2 : Int) = 1 then _ else _ : Bool) = false by simp [h1]]
        have dn1 : decide (1 ≤ n) = false := decide_eq_false h1
        clear h1 hp0
        go_enter Try.func30, Try.ntmps30
        go_wp2
        go_ret
        exact ⟨rfl, by go_grown⟩
    · by_cases hn : n = 0
      · subst hn
        rw [show (if (3 : Int) = 0 ∨ (3 : Int) = 1 then _ else _ : Bool) = decide (p < 8) by simp [hp0]; omega]
        clear hp0
        go_enter Try.func30, Try.ntmps30
        go_wp2
        go_ret
        exact ⟨rfl, by go_grown⟩
      · have hn' : (n == 0) = false := by simpa using hn
        rw [show (if (3 : Int) = 0 ∨ (3 : Int) = 1 then _ else _ : Bool) = false by simp [hn]]
        clear hn hp0
        go_enter Try.func30, Try.ntmps30
        go_wp2
        go_ret
        exact ⟨rfl, by go_grown⟩
    · obtain ⟨h0, h1, h2, h3⟩ := h
      rw [show (if s = 0 ∨ s = 1 then _ else _ : Bool) = false by simp at h0 h1 h2 h3; simp [h0, h1, h2, h3]]
      clear hp0
      go_enter Try.func30, Try.ntmps30
      go_wp2
      go_ret
      exact ⟨rfl, by go_grown⟩
  · have dp0 : decide (-1 ≤ p) = false := decide_eq_false hp0
    rcases state_cases s with rfl | rfl | rfl | rfl | h
    · by_cases hn : n = 0
      · subst hn
        rw [show (if (0 : Int) = 0 ∨ (0 : Int) = 1 then _ else _ : Bool) = (p == -1) by simp; rfl]
        clear hp0
        go_enter Try.func30, Try.ntmps30
        go_wp2
        go_ret
        exact ⟨rfl, by go_grown⟩
      · have hn' : (n == 0) = false := by simpa using hn
        rw [show (if (0 : Int) = 0 ∨ (0 : Int) = 1 then _ else _ : Bool) = false by simp [hn]]
        clear hn hp0
        go_enter Try.func30, Try.ntmps30
        go_wp2
        go_ret
        exact ⟨rfl, by go_grown⟩
    · by_cases hn : n = 0
      · subst hn
        rw [show (if (1 : Int) = 0 ∨ (1 : Int) = 1 then _ else _ : Bool) = (p == -1) by simp; rfl]
        clear hp0
        go_enter Try.func30, Try.ntmps30
        go_wp2
        go_ret
        exact ⟨rfl, by go_grown⟩
      · have hn' : (n == 0) = false := by simpa using hn
        rw [show (if (1 : Int) = 0 ∨ (1 : Int) = 1 then _ else _ : Bool) = false by simp [hn]]
        clear hn hp0
        go_enter Try.func30, Try.ntmps30
        go_wp2
        go_ret
        exact ⟨rfl, by go_grown⟩
    · by_cases h1 : 1 ≤ n
      · by_cases h2 : n ≤ 7
        · rw [show (if (2 : Int) = 0 ∨ (2 : Int) = 1 then _ else _ : Bool) = false by simp [hp0]]
          have dn1 : decide (1 ≤ n) = true := decide_eq_true h1
          have dn2 : decide (n ≤ 7) = true := decide_eq_true h2
          clear h1 h2 hp0
          go_enter Try.func30, Try.ntmps30
          go_wp2
          go_ret
          exact ⟨rfl, by go_grown⟩
        · rw [show (if (2 : Int) = 0 ∨ (2 : Int) = 1 then _ else _ : Bool) = false by simp [h2]]
          have dn1 : decide (1 ≤ n) = true := decide_eq_true h1
          have dn2 : decide (n ≤ 7) = false := decide_eq_false h2
          clear h1 h2 hp0
          go_enter Try.func30, Try.ntmps30
          go_wp2
          go_ret
          exact ⟨rfl, by go_grown⟩
      · rw [show (if (2 : Int) = 0 ∨ (2 : Int) = 1 then _ else _ : Bool) = false by simp [h1]]
        have dn1 : decide (1 ≤ n) = false := decide_eq_false h1
        clear h1 hp0
        go_enter Try.func30, Try.ntmps30
        go_wp2
        go_ret
        exact ⟨rfl, by go_grown⟩
    · by_cases hn : n = 0
      · subst hn
        rw [show (if (3 : Int) = 0 ∨ (3 : Int) = 1 then _ else _ : Bool) = false by simp [hp0]]
        clear hp0
        go_enter Try.func30, Try.ntmps30
        go_wp2
        go_ret
        exact ⟨rfl, by go_grown⟩
      · have hn' : (n == 0) = false := by simpa using hn
        rw [show (if (3 : Int) = 0 ∨ (3 : Int) = 1 then _ else _ : Bool) = false by simp [hn]]
        clear hn hp0
        go_enter Try.func30, Try.ntmps30
        go_wp2
        go_ret
        exact ⟨rfl, by go_grown⟩
    · obtain ⟨h0, h1, h2, h3⟩ := h
      rw [show (if s = 0 ∨ s = 1 then _ else _ : Bool) = false by simp at h0 h1 h2 h3; simp [h0, h1, h2, h3]]
      clear hp0
      go_enter Try.func30, Try.ntmps30
      go_wp2
      go_ret
      exact ⟨rfl, by go_grown⟩

set_option maxRecDepth 100000 in
set_option maxHeartbeats 400000 in
theorem rpack_any (s n p e : Int) (w : World) :
    Calls Try.prog 11 #[.agg #[.int .i64 s, .int .i64 n, .int .i64 p, .int .i64 e]] w fun r w' => r = .returned (.tuple #[.int .u64 (pack ⟨s, n, p, e⟩).1, .int .i64 (pack ⟨s, n, p, e⟩).2]) ∧ Below w.heap.size w w' := by
  have R := row_new w #[.int .i64 s, .int .i64 n, .int .i64 p, .int .i64 e] 23
  have HR := Lib.hid R
  clear R
  by_cases hr : Right ⟨s, n, p, e⟩
  · obtain ⟨h00, h01, h10, h11, h20, h21, h30, h31⟩ := right_bd hr
    simp only at h00 h01 h10 h11 h20 h21 h30 h31
    rw [show pack ⟨s, n, p, e⟩ = (s + 4 * n + 1024 * (p + 1) + 262144 * e, 0) by simp [pack, hr, word]]
    have Hr := Lib.hid (rightB_t hr)
    clear hr
    go_enter Try.func11, Try.ntmps11
    go_wp2_with (go_at_call 30; refine (rright_any _ _ _ _ _).mono ?_; rintro r w1 ⟨rfl, hb⟩; rw [Hr.out]; have R := row_below HR.out hb; obtain ⟨q0, q1, q2, q3, _, _, _, _⟩ := box4 R; clear R)
    go_returns
    exact ⟨rfl, below_only (by go_grown) hb⟩
  · rw [show pack ⟨s, n, p, e⟩ = (0, 1) by simp [pack, hr]]
    have Hr := Lib.hid (rightB_f hr)
    clear hr
    go_enter Try.func11, Try.ntmps11
    go_wp2_with (go_at_call 30; refine (rright_any _ _ _ _ _).mono ?_; rintro r w1 ⟨rfl, hb⟩; rw [Hr.out]; have R := row_below HR.out hb; obtain ⟨q0, q1, q2, q3, _, _, _, _⟩ := box4 R; clear R)
    go_returns
    exact ⟨rfl, below_only (by go_grown) hb⟩

end Go.Proofs.Ytconieenkeajiaa
