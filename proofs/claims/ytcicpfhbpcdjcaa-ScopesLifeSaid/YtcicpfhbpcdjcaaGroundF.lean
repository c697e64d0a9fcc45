/- The walk of (*Ground).Give where it is refused. -/
import Derived.Test.YtcicpfhbpcdjcaaGroundE
namespace Go.Proofs.Ytcicpfhbpcdjcaa
open Go.RowKit

theorem tmod8 (a : Int) : a.tmod 8 = 0 ↔ a % 8 = 0 := by
  constructor
  · intro h
    have := Int.dvd_of_tmod_eq_zero h
    omega
  · intro h
    exact Int.tmod_eq_zero_of_dvd (by omega)
theorem tmod8_ne (a : Int) : ((a.tmod 8 : Int) != 0) = decide (a % 8 ≠ 0) := by
  by_cases h : a % 8 = 0
  · rw [(tmod8 a).2 h]; simp [h]
  · have : a.tmod 8 ≠ 0 := fun h' => h ((tmod8 a).1 h')
    simp [h, this]

set_option maxRecDepth 100000 in
set_option maxHeartbeats 2000000 in
theorem give_bad (B p : Nat) (f e : Int) (l : List Ext) (q : Option Nat) (a n : Int) (w : World) (h : Gr B w p f e l q) (hn : giveBad f e a n = true) (ha : -9223372036854775808 ≤ a ∧ a ≤ 9223372036854775807) :
    Calls Try.prog 47 #[.pointer (some ⟨p, 0, none⟩), .int .i64 a, .int .i64 n] w fun r w' => r = .returned (.int .i64 1) ∧ Below w.heap.size w w' := by
  have hpw := h.lt.1
  have f0 := h.f0
  have fe := h.fe
  have e1 := h.e1
  obtain ⟨A, c, h1, _, _⟩ := h.mem
  obtain ⟨b0, b1, b2, _, _, _⟩ := box3 h1
  clear h h1
  obtain ⟨ha0, ha1⟩ := ha
  by_cases h1 : n < 1
  · clear hn
    go_enter Try.func47, Try.ntmps47
    go_wp2
    go_quiet ((go_at_call 41; exact Calls.quiet_of_same (within_any _ _ _ _)))
    (first | rw [hin] | skip)
    go_wp2
    go_ret
    exact ⟨rfl, below_drewN (by go_grown) _⟩
  · have h0 : 1 ≤ n := by omega
    have hd1 : decide (n < 1) = false := decide_eq_false h1
    by_cases h8 : n % 8 = 0
    · have hd8 : ((n % 8 : Int) != 0) = false := by rw [h8]; rfl
      by_cases a8 : a % 8 = 0
      · have ha8 : ((a.tmod 8 : Int) != 0) = false := by rw [tmod8_ne]; simp [a8]
        have ha8' : ((a % 8 : Int) != 0) = false := by rw [a8]; rfl
        cases hin : inB a f (e - 1) with
        | false =>
          clear hn h8 h1 a8
          go_enter Try.func47, Try.ntmps47
          go_wp2
          go_quiet ((go_at_call 41; exact Calls.quiet_of_same (within_any _ _ _ _)))
          (first | rw [hin] | skip)
          go_wp2
          go_ret
          exact ⟨rfl, below_drewN (by go_grown) _⟩
        | true =>
          have hb := hin
          simp only [inB, decide_eq_true_eq] at hb
          obtain ⟨g0, g1⟩ := hb
          have hbad : e - a < n := by
            simp only [giveBad, Bool.or_eq_true, decide_eq_true_eq] at hn
            omega
          have hd9 : decide (e - a < n) = true := decide_eq_true hbad
          clear hn h8 h1 a8 hbad
          go_enter Try.func47, Try.ntmps47
          go_wp2
          go_quiet ((go_at_call 41; exact Calls.quiet_of_same (within_any _ _ _ _)))
          (first | rw [hin] | skip)
          go_wp2
          go_ret
          exact ⟨rfl, below_drewN (by go_grown) _⟩
      · have ha8 : ((a.tmod 8 : Int) != 0) = true := by rw [tmod8_ne]; simp [a8]
        have ha8' : ((a % 8 : Int) != 0) = true := by rw [bne_iff_ne]; exact a8
        clear hn h8 h1 a8
        go_enter Try.func47, Try.ntmps47
        go_wp2
        go_quiet ((go_at_call 41; exact Calls.quiet_of_same (within_any _ _ _ _)))
        (first | rw [hin] | skip)
        go_wp2
        go_ret
        exact ⟨rfl, below_drewN (by go_grown) _⟩
    · have hd8 : ((n % 8 : Int) != 0) = true := by rw [bne_iff_ne]; exact h8
      clear hn h8 h1
      go_enter Try.func47, Try.ntmps47
      go_wp2
      go_quiet ((go_at_call 41; exact Calls.quiet_of_same (within_any _ _ _ _)))
      (first | rw [hin] | skip)
      go_wp2
      go_ret
      exact ⟨rfl, below_drewN (by go_grown) _⟩

end Go.Proofs.Ytcicpfhbpcdjcaa
