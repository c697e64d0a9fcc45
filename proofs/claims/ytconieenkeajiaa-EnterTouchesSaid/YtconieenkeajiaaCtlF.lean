/- The walks of the reference for control words: Enter, Leave, Open, Hold. -/
import Derived.Test.YtconieenkeajiaaCtlE
namespace Go.Proofs.Ytconieenkeajiaa
open Go.RowKit

set_option maxRecDepth 100000 in
set_option maxHeartbeats 2000000 in
theorem renter_any (s n p e f : Int) (w : World) :
    Calls Try.prog 28 #[.agg #[.int .i64 s, .int .i64 n, .int .i64 p, .int .i64 e], .int .i64 f] w fun r w' => r = .returned (.tuple #[(enter ⟨s, n, p, e⟩ f).1.val, .int .i64 (enter ⟨s, n, p, e⟩ f).2]) ∧ Below w.heap.size w w' := by
  have HR := Lib.hid (show ((w.alloc (.cells #[.int .i64 s, .int .i64 n, .int .i64 p, .int .i64 e] 23)).alloc (.cells #[.int .i64 0, .int .i64 0, .int .i64 0, .int .i64 0] 23)).heap[w.heap.size]? = some (.cells #[.int .i64 s, .int .i64 n, .int .i64 p, .int .i64 e] 23) from row_alloc (row_new w _ _))
  have HR2 := Lib.hid (show ((w.alloc (.cells #[.int .i64 s, .int .i64 n, .int .i64 p, .int .i64 e] 23)).alloc (.cells #[.int .i64 0, .int .i64 0, .int .i64 0, .int .i64 0] 23)).heap[w.heap.size + 1]? = some (.cells #[.int .i64 0, .int .i64 0, .int .i64 0, .int .i64 0] 23) from heap_at (by simp))
  have B0 : Below w.heap.size w ((w.alloc (.cells #[.int .i64 s, .int .i64 n, .int .i64 p, .int .i64 e] 23)).alloc (.cells #[.int .i64 0, .int .i64 0, .int .i64 0, .int .i64 0] 23)) := by go_grown
  by_cases hr : Right ⟨s, n, p, e⟩
  case neg =>
    rw [show enter ⟨s, n, p, e⟩ f = (noCtl, 1) by simp [enter, hr]]
    have Hr := Lib.hid (rightB_f hr)
    clear hr
    go_enter Try.func28, Try.ntmps28
    go_wp2_with (go_at_call 30; refine (rright_any _ _ _ _ _).mono ?_; rintro r w1 ⟨rfl, hb⟩; rw [Hr.out]; have B1 := below_only B0 hb; have R := row_below HR.out hb; have R2 := row_below HR2.out hb; obtain ⟨q0, q1, q2, q3, g0, g1, g2, g3⟩ := box4 R; obtain ⟨r0, r1, r2, r3, f0, f1, f2, f3⟩ := box4 R2; clear R R2)
    refine bodyPost_ret (by simp [results, Try.results28, go_sem, r0, r1, r2, r3]; rfl) rfl ?_
    exact ⟨rfl, by go_grown⟩
  have Hr := Lib.hid (rightB_t hr)
  by_cases hf0 : f < 0
  · rw [show enter ⟨s, n, p, e⟩ f = (noCtl, 1) by simp only [enter]; rw [if_pos (fun h => by omega)]]
    have df : decide (f < 0) = true := decide_eq_true hf0
    clear hr hf0
    go_enter Try.func28, Try.ntmps28
    go_wp2_with (go_at_call 30; refine (rright_any _ _ _ _ _).mono ?_; rintro r w1 ⟨rfl, hb⟩; rw [Hr.out]; have B1 := below_only B0 hb; have R := row_below HR.out hb; have R2 := row_below HR2.out hb; obtain ⟨q0, q1, q2, q3, g0, g1, g2, g3⟩ := box4 R; obtain ⟨r0, r1, r2, r3, f0, f1, f2, f3⟩ := box4 R2; clear R R2)
    refine bodyPost_ret (by simp [results, Try.results28, go_sem, r0, r1, r2, r3]; rfl) rfl ?_
    exact ⟨rfl, by go_grown⟩
  have df : decide (f < 0) = false := decide_eq_false hf0
  by_cases hf1 : 8 ≤ f
  · rw [show enter ⟨s, n, p, e⟩ f = (noCtl, 1) by simp only [enter]; rw [if_pos (fun h => by omega)]]
    have df1 : decide (8 ≤ f) = true := decide_eq_true hf1
    clear hr hf1 hf0
    go_enter Try.func28, Try.ntmps28
    go_wp2_with (go_at_call 30; refine (rright_any _ _ _ _ _).mono ?_; rintro r w1 ⟨rfl, hb⟩; rw [Hr.out]; have B1 := below_only B0 hb; have R := row_below HR.out hb; have R2 := row_below HR2.out hb; obtain ⟨q0, q1, q2, q3, g0, g1, g2, g3⟩ := box4 R; obtain ⟨r0, r1, r2, r3, f0, f1, f2, f3⟩ := box4 R2; clear R R2)
    refine bodyPost_ret (by simp [results, Try.results28, go_sem, r0, r1, r2, r3]; rfl) rfl ?_
    exact ⟨rfl, by go_grown⟩
  have df1 : decide (8 ≤ f) = false := decide_eq_false hf1
  have hf : 0 ≤ f ∧ f ≤ 7 := by omega
  clear hf0 hf1
  obtain ⟨h00, h01, h10, h11, _, _, _, _⟩ := right_bd hr
  simp only at h00 h01 h10 h11
  rcases (show s = 0 ∨ s = 3 ∨ s = 1 ∨ s = 2 by omega) with rfl | rfl | rfl | rfl
  · rw [show enter ⟨0, n, p, e⟩ f = (noCtl, 11) by rw [enter_ok hr hf]; rfl]
    clear hr hf
    go_enter Try.func28, Try.ntmps28
    go_wp2_with (go_at_call 30; refine (rright_any _ _ _ _ _).mono ?_; rintro r w1 ⟨rfl, hb⟩; rw [Hr.out]; have B1 := below_only B0 hb; have R := row_below HR.out hb; have R2 := row_below HR2.out hb; obtain ⟨q0, q1, q2, q3, g0, g1, g2, g3⟩ := box4 R; obtain ⟨r0, r1, r2, r3, f0, f1, f2, f3⟩ := box4 R2; clear R R2)
    refine bodyPost_ret (by simp [results, Try.results28, go_sem, r0, r1, r2, r3]; rfl) rfl ?_
    exact ⟨rfl, by go_grown⟩
  · rw [show enter ⟨3, n, p, e⟩ f = (noCtl, 10) by rw [enter_ok hr hf]; rfl]
    clear hr hf
    go_enter Try.func28, Try.ntmps28
    go_wp2_with (go_at_call 30; refine (rright_any _ _ _ _ _).mono ?_; rintro r w1 ⟨rfl, hb⟩; rw [Hr.out]; have B1 := below_only B0 hb; have R := row_below HR.out hb; have R2 := row_below HR2.out hb; obtain ⟨q0, q1, q2, q3, g0, g1, g2, g3⟩ := box4 R; obtain ⟨r0, r1, r2, r3, f0, f1, f2, f3⟩ := box4 R2; clear R R2)
    refine bodyPost_ret (by simp [results, Try.results28, go_sem, r0, r1, r2, r3]; rfl) rfl ?_
    exact ⟨rfl, by go_grown⟩
  · rw [show enter ⟨1, n, p, e⟩ f = (⟨2, 1, f, e⟩, 0) by rw [enter_ok hr hf]; rfl]
    clear hr hf
    go_enter Try.func28, Try.ntmps28
    go_wp2_with (go_at_call 30; refine (rright_any _ _ _ _ _).mono ?_; rintro r w1 ⟨rfl, hb⟩; rw [Hr.out]; have B1 := below_only B0 hb; have R := row_below HR.out hb; have R2 := row_below HR2.out hb; obtain ⟨q0, q1, q2, q3, g0, g1, g2, g3⟩ := box4 R; obtain ⟨r0, r1, r2, r3, f0, f1, f2, f3⟩ := box4 R2; clear R R2)
    refine bodyPost_ret (by simp [results, Try.results28, go_sem, r0, r1, r2, r3]; rfl) rfl ?_
    exact ⟨rfl, by go_grown⟩
  · by_cases hp : p = f
    · subst hp
      by_cases hn : n = 7
      · subst hn
        rw [show enter ⟨2, 7, p, e⟩ p = (noCtl, 16) by rw [enter_ok hr hf]; simp]
        clear hr hf
        go_enter Try.func28, Try.ntmps28
        go_wp2_with (go_at_call 30; refine (rright_any _ _ _ _ _).mono ?_; rintro r w1 ⟨rfl, hb⟩; rw [Hr.out]; have B1 := below_only B0 hb; have R := row_below HR.out hb; have R2 := row_below HR2.out hb; obtain ⟨q0, q1, q2, q3, g0, g1, g2, g3⟩ := box4 R; obtain ⟨r0, r1, r2, r3, f0, f1, f2, f3⟩ := box4 R2; clear R R2)
        refine bodyPost_ret (by simp [results, Try.results28, go_sem, r0, r1, r2, r3]; rfl) rfl ?_
        exact ⟨rfl, by go_grown⟩
      · rw [show enter ⟨2, n, p, e⟩ p = (⟨2, n + 1, p, e⟩, 0) by rw [enter_ok hr hf]; simp [hn]]
        have hn' : (n == 7) = false := by simpa using hn
        clear hn hr hf
        go_enter Try.func28, Try.ntmps28
        go_wp2_with (go_at_call 30; refine (rright_any _ _ _ _ _).mono ?_; rintro r w1 ⟨rfl, hb⟩; rw [Hr.out]; have B1 := below_only B0 hb; have R := row_below HR.out hb; have R2 := row_below HR2.out hb; obtain ⟨q0, q1, q2, q3, g0, g1, g2, g3⟩ := box4 R; obtain ⟨r0, r1, r2, r3, f0, f1, f2, f3⟩ := box4 R2; clear R R2)
        refine bodyPost_ret (by simp [results, Try.results28, go_sem, r0, r1, r2, r3]; rfl) rfl ?_
        exact ⟨rfl, by go_grown⟩
    · rw [show enter ⟨2, n, p, e⟩ f = (noCtl, 15) by rw [enter_ok hr hf]; simp [hp]]
      have hp' : (p != f) = true := by simpa using hp
      clear hp hr hf
      go_enter Try.func28, Try.ntmps28
      go_wp2_with (go_at_call 30; refine (rright_any _ _ _ _ _).mono ?_; rintro r w1 ⟨rfl, hb⟩; rw [Hr.out]; have B1 := below_only B0 hb; have R := row_below HR.out hb; have R2 := row_below HR2.out hb; obtain ⟨q0, q1, q2, q3, g0, g1, g2, g3⟩ := box4 R; obtain ⟨r0, r1, r2, r3, f0, f1, f2, f3⟩ := box4 R2; clear R R2)
      refine bodyPost_ret (by simp [results, Try.results28, go_sem, r0, r1, r2, r3]; rfl) rfl ?_
      exact ⟨rfl, by go_grown⟩

set_option maxRecDepth 100000 in
set_option maxHeartbeats 1000000 in
theorem ropen_any (s n p e : Int) (w : World) :
    Calls Try.prog 25 #[.agg #[.int .i64 s, .int .i64 n, .int .i64 p, .int .i64 e]] w fun r w' => r = .returned (.tuple #[(openC ⟨s, n, p, e⟩).1.val, .int .i64 (openC ⟨s, n, p, e⟩).2]) ∧ Below w.heap.size w w' := by
  have HR := Lib.hid (show ((w.alloc (.cells #[.int .i64 s, .int .i64 n, .int .i64 p, .int .i64 e] 23)).alloc (.cells #[.int .i64 0, .int .i64 0, .int .i64 0, .int .i64 0] 23)).heap[w.heap.size]? = some (.cells #[.int .i64 s, .int .i64 n, .int .i64 p, .int .i64 e] 23) from row_alloc (row_new w _ _))
  have HR2 := Lib.hid (show ((w.alloc (.cells #[.int .i64 s, .int .i64 n, .int .i64 p, .int .i64 e] 23)).alloc (.cells #[.int .i64 0, .int .i64 0, .int .i64 0, .int .i64 0] 23)).heap[w.heap.size + 1]? = some (.cells #[.int .i64 0, .int .i64 0, .int .i64 0, .int .i64 0] 23) from heap_at (by simp))
  have B0 : Below w.heap.size w ((w.alloc (.cells #[.int .i64 s, .int .i64 n, .int .i64 p, .int .i64 e] 23)).alloc (.cells #[.int .i64 0, .int .i64 0, .int .i64 0, .int .i64 0] 23)) := by go_grown
  by_cases hr : Right ⟨s, n, p, e⟩
  case neg =>
    rw [show openC ⟨s, n, p, e⟩ = (noCtl, 1) by simp [openC, ofState, hr]]
    have Hr := Lib.hid (rightB_f hr)
    clear hr
    go_enter Try.func25, Try.ntmps25
    go_wp2_with (go_at_call 30; refine (rright_any _ _ _ _ _).mono ?_; rintro r w1 ⟨rfl, hb⟩; rw [Hr.out]; have B1 := below_only B0 hb; have R := row_below HR.out hb; have R2 := row_below HR2.out hb; obtain ⟨q0, q1, q2, q3, g0, g1, g2, g3⟩ := box4 R; obtain ⟨r0, r1, r2, r3, f0, f1, f2, f3⟩ := box4 R2; clear R R2)
    refine bodyPost_ret (by simp [results, Try.results25, go_sem, r0, r1, r2, r3]; rfl) rfl ?_
    exact ⟨rfl, by go_grown⟩
  have Hr := Lib.hid (rightB_t hr)
  by_cases hs : s = 3
  case neg =>
    rw [show openC ⟨s, n, p, e⟩ = (noCtl, 11) by simp [openC, ofState, hr, hs]]
    have hs' : (s != 3) = true := by simpa using hs
    clear hr hs
    go_enter Try.func25, Try.ntmps25
    go_wp2_with (go_at_call 30; refine (rright_any _ _ _ _ _).mono ?_; rintro r w1 ⟨rfl, hb⟩; rw [Hr.out]; have B1 := below_only B0 hb; have R := row_below HR.out hb; have R2 := row_below HR2.out hb; obtain ⟨q0, q1, q2, q3, g0, g1, g2, g3⟩ := box4 R; obtain ⟨r0, r1, r2, r3, f0, f1, f2, f3⟩ := box4 R2; clear R R2)
    refine bodyPost_ret (by simp [results, Try.results25, go_sem, r0, r1, r2, r3]; rfl) rfl ?_
    exact ⟨rfl, by go_grown⟩
  subst hs
  obtain ⟨_, _, h10, h11, _, _, h30, h31⟩ := right_bd hr
  simp only at h10 h11 h30 h31
  rw [show openC ⟨3, n, p, e⟩ = (⟨1, 0, -1, (e + 1) % 16777216⟩, 0) by simp [openC, ofState, hr]]
  clear hr
  go_enter Try.func25, Try.ntmps25
  go_wp2_with (go_at_call 30; refine (rright_any _ _ _ _ _).mono ?_; rintro r w1 ⟨rfl, hb⟩; rw [Hr.out]; have B1 := below_only B0 hb; have R := row_below HR.out hb; have R2 := row_below HR2.out hb; obtain ⟨q0, q1, q2, q3, g0, g1, g2, g3⟩ := box4 R; obtain ⟨r0, r1, r2, r3, f0, f1, f2, f3⟩ := box4 R2; clear R R2)
  refine bodyPost_ret (by simp [results, Try.results25, go_sem, r0, r1, r2, r3]; rfl) rfl ?_
  exact ⟨rfl, by go_grown⟩

end Go.Proofs.Ytconieenkeajiaa
