/- The walks of package ctl's part, of, Pack, Unpack, Enter, Leave, Open, Hold. -/
import Derived.Test.YtconieenkeajiaaCtlA
import Derived.Test.YtconieenkeajiaaBits
namespace Go.Proofs.Ytconieenkeajiaa
open Go.RowKit

theorem ret_wrap {a b c : Int} (h : a = b) (h2 : b = c) (h0 : 0 ≤ c) (h1 : c < 9223372036854775807) : Ending.returned (.int .i64 (wrap64 a)) = .returned (.int .i64 c) := by
  rw [h, h2, IntWalk.wrap64_in c ⟨by omega, by omega⟩]

set_option maxRecDepth 100000 in
set_option maxHeartbeats 400000 in
theorem part0_any (x : Int) (w : World) (h0 : 0 ≤ x) (h1 : x ≤ 18446744073709551615) :
    Calls Try.prog 69 #[.int .u64 x, .int .i64 0, .int .i64 2] w fun e w' => e = .returned (.int .i64 (x % 4)) ∧ Below w.heap.size w w' := by
  go_enter Try.func69, Try.ntmps69
  go_wp2
  go_quiet (fail)
  go_wp2
  go_ret
  exact ⟨ret_wrap (umask2 x h0 (by omega)) rfl (by omega) (by omega), below_drewN (Below.refl _ _) _⟩

set_option maxRecDepth 100000 in
set_option maxHeartbeats 400000 in
theorem part2_any (x : Int) (w : World) (h0 : 0 ≤ x) (h1 : x ≤ 18446744073709551615) :
    Calls Try.prog 69 #[.int .u64 x, .int .i64 2, .int .i64 8] w fun e w' => e = .returned (.int .i64 (x / 4 % 256)) ∧ Below w.heap.size w w' := by
  go_enter Try.func69, Try.ntmps69
  go_wp2
  go_quiet (fail)
  go_wp2
  go_ret
  exact ⟨ret_wrap (umask8 (x / 4) (by omega) (by omega)) rfl (by omega) (by omega), below_drewN (Below.refl _ _) _⟩

set_option maxRecDepth 100000 in
set_option maxHeartbeats 400000 in
theorem part10_any (x : Int) (w : World) (h0 : 0 ≤ x) (h1 : x ≤ 18446744073709551615) :
    Calls Try.prog 69 #[.int .u64 x, .int .i64 10, .int .i64 8] w fun e w' => e = .returned (.int .i64 (x / 1024 % 256)) ∧ Below w.heap.size w w' := by
  go_enter Try.func69, Try.ntmps69
  go_wp2
  go_quiet (fail)
  go_wp2
  go_ret
  exact ⟨ret_wrap (umask8 (x / 1024) (by omega) (by omega)) rfl (by omega) (by omega), below_drewN (Below.refl _ _) _⟩

set_option maxRecDepth 100000 in
set_option maxHeartbeats 400000 in
theorem part18_any (x : Int) (w : World) (h0 : 0 ≤ x) (h1 : x ≤ 18446744073709551615) :
    Calls Try.prog 69 #[.int .u64 x, .int .i64 18, .int .i64 24] w fun e w' => e = .returned (.int .i64 (x / 262144 % 16777216)) ∧ Below w.heap.size w w' := by
  go_enter Try.func69, Try.ntmps69
  go_wp2
  go_quiet (fail)
  go_wp2
  go_ret
  exact ⟨ret_wrap (umask24 (x / 262144) (by omega) (by omega)) rfl (by omega) (by omega), below_drewN (Below.refl _ _) _⟩

set_option maxRecDepth 100000 in
set_option maxHeartbeats 400000 in
theorem pack_any (s n p e : Int) (w : World) :
    Calls Try.prog 65 #[.agg #[.int .i64 s, .int .i64 n, .int .i64 p, .int .i64 e]] w fun r w' => r = .returned (.tuple #[.int .u64 (pack ⟨s, n, p, e⟩).1, .int .i64 (pack ⟨s, n, p, e⟩).2]) ∧ Below w.heap.size w w' := by
  have R := row_new w #[.int .i64 s, .int .i64 n, .int .i64 p, .int .i64 e] 23
  have HR := Lib.hid R
  clear R
  by_cases hr : Right ⟨s, n, p, e⟩
  · obtain ⟨h00, h01, h10, h11, h20, h21, h30, h31⟩ := right_bd hr
    have e1 : bits .or .u64 (bits .or .u64 (bits .or .u64 s (n * 4)) ((p + 1) * 1024)) (e * 262144) = word ⟨s, n, p, e⟩ := by
      simp only at h00 h01 h10 h11 h20 h21 h30 h31
      rw [u64_join 2 s (n * 4) h00 (by omega) (by omega) (by omega) (by omega) (by omega), u64_join 10 _ ((p + 1) * 1024) (by omega) (by omega) (by omega) (by omega) (by omega) (by omega),
        u64_join 18 _ (e * 262144) (by omega) (by omega) (by omega) (by omega) (by omega) (by omega)]
      simp only [word]
      omega
    have He := Lib.hid e1
    rw [show pack ⟨s, n, p, e⟩ = (word ⟨s, n, p, e⟩, 0) by simp [pack, hr]]
    have Hr := Lib.hid (rightB_t hr)
    clear hr e1
    simp only at h00 h01 h10 h11 h20 h21 h30 h31
    go_enter Try.func65, Try.ntmps65
    go_wp2_with (go_at_call 52; refine (right_any _ _ _ _ _).mono ?_; rintro r w1 ⟨rfl, hb⟩; rw [Hr.out]; have R := row_below HR.out hb; obtain ⟨q0, q1, q2, q3, _, _, _, _⟩ := box4 R; clear R)
    go_returns
    exact ⟨by rw [← He.out]; rfl, below_only (by go_grown) hb⟩
  · rw [show pack ⟨s, n, p, e⟩ = (0, 1) by simp [pack, hr]]
    have Hr := Lib.hid (rightB_f hr)
    clear hr
    go_enter Try.func65, Try.ntmps65
    go_wp2_with (go_at_call 52; refine (right_any _ _ _ _ _).mono ?_; rintro r w1 ⟨rfl, hb⟩; rw [Hr.out]; have R := row_below HR.out hb; obtain ⟨q0, q1, q2, q3, _, _, _, _⟩ := box4 R; clear R)
    go_returns
    exact ⟨rfl, below_only (by go_grown) hb⟩

end Go.Proofs.Ytconieenkeajiaa
