/- The walks of package ctl's part, of, Pack, Unpack, Enter, Leave, Open, Hold. -/
import Derived.Test.YtcicpfhbpcdjcaaCtlA
import Derived.Test.YtcicpfhbpcdjcaaBits
namespace Go.Proofs.Ytcicpfhbpcdjcaa
open Go.RowKit

theorem ret_wrap {a b c : Int} (h : a = b) (h2 : b = c) (h0 : 0 ≤ c) (h1 : c < 9223372036854775807) : Ending.returned (.int .i64 (wrap64 a)) = .returned (.int .i64 c) := by
  rw [h, h2, IntWalk.wrap64_in c ⟨by omega, by omega⟩]

set_option maxHeartbeats 400000 in
theorem of_any (s n p e st : Int) (w : World) :
    Calls Try.prog 71 #[.agg #[.int .i64 s, .int .i64 n, .int .i64 p, .int .i64 e], .int .i64 st] w fun r w' => r = .returned (.int .i64 (ofState ⟨s, n, p, e⟩ st)) ∧ Below w.heap.size w w' := by
  have R := row_new w #[.int .i64 s, .int .i64 n, .int .i64 p, .int .i64 e] 43
  have HR := Lib.hid R
  clear R
  by_cases hr : Right ⟨s, n, p, e⟩
  · by_cases hs : s = st
    · subst hs
      rw [show ofState ⟨s, n, p, e⟩ s = 0 by simp [ofState, hr]]
      have Hr := Lib.hid (rightB_t hr)
      clear hr
      go_enter Try.func71, Try.ntmps71
      go_wp2_with (go_at_call 70; refine (right_any _ _ _ _ _).mono ?_; rintro r w1 ⟨rfl, hb⟩; rw [Hr.out]; have R := row_below HR.out hb; obtain ⟨q0, q1, q2, q3, _, _, _, _⟩ := box4 R; clear R)
      go_ret
      exact ⟨rfl, below_only (by go_grown) hb⟩
    · rw [show ofState ⟨s, n, p, e⟩ st = 11 by simp [ofState, hr, hs]]
      have hs' : (s != st) = true := by simpa using hs
      have Hr := Lib.hid (rightB_t hr)
      clear hr hs
      go_enter Try.func71, Try.ntmps71
      go_wp2_with (go_at_call 70; refine (right_any _ _ _ _ _).mono ?_; rintro r w1 ⟨rfl, hb⟩; rw [Hr.out]; have R := row_below HR.out hb; obtain ⟨q0, q1, q2, q3, _, _, _, _⟩ := box4 R; clear R)
      go_ret
      exact ⟨rfl, below_only (by go_grown) hb⟩
  · rw [show ofState ⟨s, n, p, e⟩ st = 1 by simp [ofState, hr]]
    have Hr := Lib.hid (rightB_f hr)
    clear hr
    go_enter Try.func71, Try.ntmps71
    go_wp2_with (go_at_call 70; refine (right_any _ _ _ _ _).mono ?_; rintro r w1 ⟨rfl, hb⟩; rw [Hr.out]; have R := row_below HR.out hb; obtain ⟨q0, q1, q2, q3, _, _, _, _⟩ := box4 R; clear R)
    go_ret
    exact ⟨rfl, below_only (by go_grown) hb⟩

end Go.Proofs.Ytcicpfhbpcdjcaa
