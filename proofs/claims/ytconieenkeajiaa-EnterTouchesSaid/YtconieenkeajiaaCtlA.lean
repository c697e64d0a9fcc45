/- The walks of num.Within and of package ctl's kind, Right, of. -/
import Derived.Test.YtconieenkeajiaaCtlPlain
import Derived.Test.YtconieenkeajiaaNum
import Derived.BigGuardPart
namespace Go.Proofs.Ytconieenkeajiaa
open Go.RowKit

def kindOf (s : Int) : Int := if s = 0 ∨ s = 1 then 0 else if s = 2 then 1 else if s = 3 then 2 else -1
theorem state_cases (s : Int) : s = 0 ∨ s = 1 ∨ s = 2 ∨ s = 3 ∨ ((s == 0) = false ∧ (s == 1) = false ∧ (s == 2) = false ∧ (s == 3) = false) := by
  simp; omega
theorem kindOf_other {s : Int} (h : (s == 0) = false ∧ (s == 1) = false ∧ (s == 2) = false ∧ (s == 3) = false) : kindOf s = -1 := by
  simp at h; simp [kindOf, h]

set_option maxRecDepth 100000 in
set_option maxHeartbeats 400000 in
theorem kind_any (s : Int) (w : World) : Calls Try.prog 70 #[.int .i64 s] w fun e w' => e = .returned (.int .i64 (kindOf s)) ∧ w' = w := by
  rcases state_cases s with rfl | rfl | rfl | rfl | h
  case' inr.inr.inr.inr =>
    rw [kindOf_other h]
    obtain ⟨h0, h1, h2, h3⟩ := h
  all_goals
    go_enter Try.func70, Try.ntmps70
    go_wp2
    go_ret
    exact ⟨rfl, rfl⟩

theorem right_eq {s n p e : Int} (he : 0 ≤ e ∧ e ≤ 16777215) : rightB ⟨s, n, p, e⟩ = (if kindOf s = 0 then decide (n = 0 ∧ p = -1) else if kindOf s = 1 then decide (1 ≤ n ∧ n ≤ 7 ∧ -1 ≤ p ∧ p ≤ 7) else if kindOf s = 2 then decide (n = 0 ∧ -1 ≤ p ∧ p ≤ 7) else false) := by
  unfold rightB
  rw [Bool.eq_iff_iff]
  rcases state_cases s with rfl | rfl | rfl | rfl | h
  case inr.inr.inr.inr =>
    rw [kindOf_other h]
    simp at h ⊢
    rintro ⟨_, _, h'⟩
    simp at h'
    omega
  all_goals simp [kindOf, Right, he]

theorem kind_cases (s : Int) : kindOf s = 0 ∨ kindOf s = 1 ∨ kindOf s = 2 ∨ kindOf s = -1 := by
  unfold kindOf
  by_cases h0 : s = 0 ∨ s = 1
  · simp [h0]
  · by_cases h2 : s = 2
    · simp [h2]
    · by_cases h3 : s = 3 <;> simp [h0, h2, h3]

set_option maxRecDepth 100000 in
set_option maxHeartbeats 2000000 in
theorem right_any (s n p e : Int) (w : World) :
    Calls Try.prog 52 #[.agg #[.int .i64 s, .int .i64 n, .int .i64 p, .int .i64 e]] w fun r w' => r = .returned (.bool (rightB ⟨s, n, p, e⟩)) ∧ Below w.heap.size w w' := by
  by_cases he : 0 ≤ e ∧ e ≤ 16777215
  · skip
    rcases kind_cases s with hk | hk | hk | hk
    · by_cases hn : n = 0
      · subst hn
        rw [show rightB ⟨s, 0, p, e⟩ = (p == -1) by rw [right_eq he, hk]; simp; rfl]
        have He := Lib.hid (inB_t he); have Hk := Lib.hid hk; clear he hk
        have Hw := He
        go_enter Try.func52, Try.ntmps52
        go_wp2_with (first
          | (go_at_call 53; refine (within_any _ _ _ _).mono ?_; rintro r w1 ⟨rfl, rfl⟩; (first | rw [He.out] | rw [Hw.out] | skip))
          | (go_at_call 70; refine (kind_any _ _).mono ?_; rintro r w1 ⟨rfl, rfl⟩; rw [Hk.out]))
        go_ret
        exact ⟨rfl, by go_grown⟩
      · have hn' : (n == 0) = false := by simpa using hn
        rw [show rightB ⟨s, n, p, e⟩ = false by rw [right_eq he, hk]; simp [hn]]
        have He := Lib.hid (inB_t he); have Hk := Lib.hid hk; clear he hk
        have Hw := He
        clear hn
        go_enter Try.func52, Try.ntmps52
        go_wp2_with (first
          | (go_at_call 53; refine (within_any _ _ _ _).mono ?_; rintro r w1 ⟨rfl, rfl⟩; (first | rw [He.out] | rw [Hw.out] | skip))
          | (go_at_call 70; refine (kind_any _ _).mono ?_; rintro r w1 ⟨rfl, rfl⟩; rw [Hk.out]))
        go_ret
        exact ⟨rfl, by go_grown⟩
    · by_cases hn : 1 ≤ n ∧ n ≤ 7
      · have hw := inB_t hn
        rw [show rightB ⟨s, n, p, e⟩ = inB p (-1) 7 by rw [right_eq he, hk]; simp [hn, inB]]
        have He := Lib.hid (inB_t he); have Hk := Lib.hid hk; clear he hk
        have Hw := Lib.hid hw; clear hw hn
        go_enter Try.func52, Try.ntmps52
        go_wp2_with (first
          | (go_at_call 53; refine (within_any _ _ _ _).mono ?_; rintro r w1 ⟨rfl, rfl⟩; (first | rw [He.out] | rw [Hw.out] | skip))
          | (go_at_call 70; refine (kind_any _ _).mono ?_; rintro r w1 ⟨rfl, rfl⟩; rw [Hk.out]))
        go_ret
        exact ⟨rfl, by go_grown⟩
      · have hw := inB_f hn
        rw [show rightB ⟨s, n, p, e⟩ = false by rw [right_eq he, hk]; simp; omega]
        have He := Lib.hid (inB_t he); have Hk := Lib.hid hk; clear he hk
        have Hw := Lib.hid hw; clear hw hn
        go_enter Try.func52, Try.ntmps52
        go_wp2_with (first
          | (go_at_call 53; refine (within_any _ _ _ _).mono ?_; rintro r w1 ⟨rfl, rfl⟩; (first | rw [He.out] | rw [Hw.out] | skip))
          | (go_at_call 70; refine (kind_any _ _).mono ?_; rintro r w1 ⟨rfl, rfl⟩; rw [Hk.out]))
        go_ret
        exact ⟨rfl, by go_grown⟩
    · by_cases hn : n = 0
      · subst hn
        rw [show rightB ⟨s, 0, p, e⟩ = inB p (-1) 7 by rw [right_eq he, hk]; simp [inB]]
        have He := Lib.hid (inB_t he); have Hk := Lib.hid hk; clear he hk
        have Hw := He
        go_enter Try.func52, Try.ntmps52
        go_wp2_with (first
          | (go_at_call 53; refine (within_any _ _ _ _).mono ?_; rintro r w1 ⟨rfl, rfl⟩; (first | rw [He.out] | rw [Hw.out] | skip))
          | (go_at_call 70; refine (kind_any _ _).mono ?_; rintro r w1 ⟨rfl, rfl⟩; rw [Hk.out]))
        go_ret
        exact ⟨rfl, by go_grown⟩
      · have hn' : (n == 0) = false := by simpa using hn
        rw [show rightB ⟨s, n, p, e⟩ = false by rw [right_eq he, hk]; simp [hn]]
        have He := Lib.hid (inB_t he); have Hk := Lib.hid hk; clear he hk
        have Hw := He
        clear hn
        go_enter Try.func52, Try.ntmps52
        go_wp2_with (first
          | (go_at_call 53; refine (within_any _ _ _ _).mono ?_; rintro r w1 ⟨rfl, rfl⟩; (first | rw [He.out] | rw [Hw.out] | skip))
          | (go_at_call 70; refine (kind_any _ _).mono ?_; rintro r w1 ⟨rfl, rfl⟩; rw [Hk.out]))
        go_ret
        exact ⟨rfl, by go_grown⟩
    · skip
      rw [show rightB ⟨s, n, p, e⟩ = false by rw [right_eq he, hk]; simp]
      have He := Lib.hid (inB_t he); have Hk := Lib.hid hk; clear he hk
      have Hw := He
      go_enter Try.func52, Try.ntmps52
      go_wp2_with (first
        | (go_at_call 53; refine (within_any _ _ _ _).mono ?_; rintro r w1 ⟨rfl, rfl⟩; (first | rw [He.out] | rw [Hw.out] | skip))
        | (go_at_call 70; refine (kind_any _ _).mono ?_; rintro r w1 ⟨rfl, rfl⟩; rw [Hk.out]))
      go_ret
      exact ⟨rfl, by go_grown⟩
  · rw [rightB_f (fun h => he ⟨h.1, h.2.1⟩)]
    go_enter Try.func52, Try.ntmps52
    go_wp2_with (go_at_call 53; refine (within_any _ _ _ _).mono ?_; rintro r w1 ⟨rfl, rfl⟩; rw [inB_f he])
    go_ret
    exact ⟨rfl, by go_grown⟩

end Go.Proofs.Ytconieenkeajiaa
