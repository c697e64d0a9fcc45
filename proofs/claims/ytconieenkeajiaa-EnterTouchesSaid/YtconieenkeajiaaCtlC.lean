/- The walks of package ctl's Unpack, Enter, Leave, Open, Hold. -/
import Derived.Test.YtconieenkeajiaaCtlB
namespace Go.Proofs.Ytconieenkeajiaa
open Go.RowKit

theorem enter_ok {s n p e f : Int} (hr : Right ⟨s, n, p, e⟩) (hf : 0 ≤ f ∧ f ≤ 7) : enter ⟨s, n, p, e⟩ f = if s = 0 then (noCtl, 11) else if s = 3 then (noCtl, 10) else if s = 1 then (⟨2, 1, f, e⟩, 0) else if p ≠ f then (noCtl, 15) else if n = 7 then (noCtl, 16) else (⟨s, n + 1, p, e⟩, 0) := by
  simp only [enter]; rw [if_neg (fun h => h ⟨hr, hf⟩)]

set_option maxRecDepth 100000 in
set_option maxHeartbeats 1000000 in
theorem enter_any (s n p e f : Int) (w : World) :
    Calls Try.prog 26 #[.agg #[.int .i64 s, .int .i64 n, .int .i64 p, .int .i64 e], .int .i64 f] w fun r w' => r = .returned (.tuple #[(enter ⟨s, n, p, e⟩ f).1.val, .int .i64 (enter ⟨s, n, p, e⟩ f).2]) ∧ Below w.heap.size w w' := by
  have HR := Lib.hid (show ((w.alloc (.cells #[.int .i64 s, .int .i64 n, .int .i64 p, .int .i64 e] 23)).alloc (.cells #[.int .i64 0, .int .i64 0, .int .i64 0, .int .i64 0] 23)).heap[w.heap.size]? = some (.cells #[.int .i64 s, .int .i64 n, .int .i64 p, .int .i64 e] 23) from row_alloc (row_new w _ _))
  have HR2 := Lib.hid (show ((w.alloc (.cells #[.int .i64 s, .int .i64 n, .int .i64 p, .int .i64 e] 23)).alloc (.cells #[.int .i64 0, .int .i64 0, .int .i64 0, .int .i64 0] 23)).heap[w.heap.size + 1]? = some (.cells #[.int .i64 0, .int .i64 0, .int .i64 0, .int .i64 0] 23) from heap_at (by simp))
  have B0 : Below w.heap.size w ((w.alloc (.cells #[.int .i64 s, .int .i64 n, .int .i64 p, .int .i64 e] 23)).alloc (.cells #[.int .i64 0, .int .i64 0, .int .i64 0, .int .i64 0] 23)) := by go_grown
  by_cases hr : Right ⟨s, n, p, e⟩
  case neg =>
    rw [show enter ⟨s, n, p, e⟩ f = (noCtl, 1) by simp [enter, hr]]
    have Hr := Lib.hid (rightB_f hr)
    have Hf := Hr
    clear hr
    go_enter Try.func26, Try.ntmps26
    go_wp2_with (first
      | (go_at_call 52; refine (right_any _ _ _ _ _).mono ?_; rintro r w1 ⟨rfl, hb⟩; rw [Hr.out]; have B1 := below_only B0 hb; have R := row_below HR.out hb; have R2 := row_below HR2.out hb; obtain ⟨q0, q1, q2, q3, g0, g1, g2, g3⟩ := box4 R; obtain ⟨r0, r1, r2, r3, f0, f1, f2, f3⟩ := box4 R2; clear R R2)
      | (go_at_call 53; refine (within_any _ _ _ _).mono ?_; rintro r w2 ⟨rfl, rfl⟩; rw [Hf.out]))
    refine bodyPost_ret (by simp [results, Try.results26, go_sem, r0, r1, r2, r3]; rfl) rfl ?_
    exact ⟨rfl, by go_grown⟩
  have Hr := Lib.hid (rightB_t hr)
  by_cases hf : 0 ≤ f ∧ f ≤ 7
  case neg =>
    rw [show enter ⟨s, n, p, e⟩ f = (noCtl, 1) by simp only [enter]; rw [if_pos (fun h => hf h.2)]]
    have Hf := Lib.hid (inB_f hf)
    clear hr hf
    go_enter Try.func26, Try.ntmps26
    go_wp2_with (first
      | (go_at_call 52; refine (right_any _ _ _ _ _).mono ?_; rintro r w1 ⟨rfl, hb⟩; rw [Hr.out]; have B1 := below_only B0 hb; have R := row_below HR.out hb; have R2 := row_below HR2.out hb; obtain ⟨q0, q1, q2, q3, g0, g1, g2, g3⟩ := box4 R; obtain ⟨r0, r1, r2, r3, f0, f1, f2, f3⟩ := box4 R2; clear R R2)
      | (go_at_call 53; refine (within_any _ _ _ _).mono ?_; rintro r w2 ⟨rfl, rfl⟩; rw [Hf.out]))
    refine bodyPost_ret (by simp [results, Try.results26, go_sem, r0, r1, r2, r3]; rfl) rfl ?_
    exact ⟨rfl, by go_grown⟩
  have Hf := Lib.hid (inB_t hf)
  obtain ⟨h00, h01, h10, h11, _, _, _, _⟩ := right_bd hr
  simp only at h00 h01 h10 h11
  have hn1 : s = 1 → n = 0 := fun h => by obtain ⟨_, _, h3⟩ := hr; simp [h] at h3; omega
  rcases (show s = 0 ∨ s = 3 ∨ s = 1 ∨ s = 2 by omega) with rfl | rfl | rfl | rfl
  · rw [show enter ⟨0, n, p, e⟩ f = (noCtl, 11) by rw [enter_ok hr hf]; rfl]
    clear hn1 hr hf
    go_enter Try.func26, Try.ntmps26
    go_wp2_with (first
      | (go_at_call 52; refine (right_any _ _ _ _ _).mono ?_; rintro r w1 ⟨rfl, hb⟩; rw [Hr.out]; have B1 := below_only B0 hb; have R := row_below HR.out hb; have R2 := row_below HR2.out hb; obtain ⟨q0, q1, q2, q3, g0, g1, g2, g3⟩ := box4 R; obtain ⟨r0, r1, r2, r3, f0, f1, f2, f3⟩ := box4 R2; clear R R2)
      | (go_at_call 53; refine (within_any _ _ _ _).mono ?_; rintro r w2 ⟨rfl, rfl⟩; rw [Hf.out]))
    refine bodyPost_ret (by simp [results, Try.results26, go_sem, r0, r1, r2, r3]; rfl) rfl ?_
    exact ⟨rfl, by go_grown⟩
  · rw [show enter ⟨3, n, p, e⟩ f = (noCtl, 10) by rw [enter_ok hr hf]; rfl]
    clear hn1 hr hf
    go_enter Try.func26, Try.ntmps26
    go_wp2_with (first
      | (go_at_call 52; refine (right_any _ _ _ _ _).mono ?_; rintro r w1 ⟨rfl, hb⟩; rw [Hr.out]; have B1 := below_only B0 hb; have R := row_below HR.out hb; have R2 := row_below HR2.out hb; obtain ⟨q0, q1, q2, q3, g0, g1, g2, g3⟩ := box4 R; obtain ⟨r0, r1, r2, r3, f0, f1, f2, f3⟩ := box4 R2; clear R R2)
      | (go_at_call 53; refine (within_any _ _ _ _).mono ?_; rintro r w2 ⟨rfl, rfl⟩; rw [Hf.out]))
    refine bodyPost_ret (by simp [results, Try.results26, go_sem, r0, r1, r2, r3]; rfl) rfl ?_
    exact ⟨rfl, by go_grown⟩
  · obtain rfl := hn1 rfl
    rw [show enter ⟨1, 0, p, e⟩ f = (⟨2, 1, f, e⟩, 0) by rw [enter_ok hr hf]; rfl]
    clear hn1 hr hf
    go_enter Try.func26, Try.ntmps26
    go_wp2_with (first
      | (go_at_call 52; refine (right_any _ _ _ _ _).mono ?_; rintro r w1 ⟨rfl, hb⟩; rw [Hr.out]; have B1 := below_only B0 hb; have R := row_below HR.out hb; have R2 := row_below HR2.out hb; obtain ⟨q0, q1, q2, q3, g0, g1, g2, g3⟩ := box4 R; obtain ⟨r0, r1, r2, r3, f0, f1, f2, f3⟩ := box4 R2; clear R R2)
      | (go_at_call 53; refine (within_any _ _ _ _).mono ?_; rintro r w2 ⟨rfl, rfl⟩; rw [Hf.out]))
    refine bodyPost_ret (by simp [results, Try.results26, go_sem, r0, r1, r2, r3]; rfl) rfl ?_
    exact ⟨rfl, by go_grown⟩
  · clear hn1
    by_cases hp : p = f
    · subst hp
      by_cases hn : n = 7
      · subst hn
        rw [show enter ⟨2, 7, p, e⟩ p = (noCtl, 16) by rw [enter_ok hr hf]; simp]
        clear hr hf
        go_enter Try.func26, Try.ntmps26
        go_wp2_with (first
          | (go_at_call 52; refine (right_any _ _ _ _ _).mono ?_; rintro r w1 ⟨rfl, hb⟩; rw [Hr.out]; have B1 := below_only B0 hb; have R := row_below HR.out hb; have R2 := row_below HR2.out hb; obtain ⟨q0, q1, q2, q3, g0, g1, g2, g3⟩ := box4 R; obtain ⟨r0, r1, r2, r3, f0, f1, f2, f3⟩ := box4 R2; clear R R2)
          | (go_at_call 53; refine (within_any _ _ _ _).mono ?_; rintro r w2 ⟨rfl, rfl⟩; rw [Hf.out]))
        refine bodyPost_ret (by simp [results, Try.results26, go_sem, r0, r1, r2, r3]; rfl) rfl ?_
        exact ⟨rfl, by go_grown⟩
      · rw [show enter ⟨2, n, p, e⟩ p = (⟨2, n + 1, p, e⟩, 0) by rw [enter_ok hr hf]; simp [hn]]
        have hn' : (n == 7) = false := by simpa using hn
        clear hn hr hf
        go_enter Try.func26, Try.ntmps26
        go_wp2_with (first
          | (go_at_call 52; refine (right_any _ _ _ _ _).mono ?_; rintro r w1 ⟨rfl, hb⟩; rw [Hr.out]; have B1 := below_only B0 hb; have R := row_below HR.out hb; have R2 := row_below HR2.out hb; obtain ⟨q0, q1, q2, q3, g0, g1, g2, g3⟩ := box4 R; obtain ⟨r0, r1, r2, r3, f0, f1, f2, f3⟩ := box4 R2; clear R R2)
          | (go_at_call 53; refine (within_any _ _ _ _).mono ?_; rintro r w2 ⟨rfl, rfl⟩; rw [Hf.out]))
        refine bodyPost_ret (by simp [results, Try.results26, go_sem, r0, r1, r2, r3]; rfl) rfl ?_
        exact ⟨rfl, by go_grown⟩
    · rw [show enter ⟨2, n, p, e⟩ f = (noCtl, 15) by rw [enter_ok hr hf]; simp [hp]]
      have hp' : (p != f) = true := by simpa using hp
      clear hp hr hf
      go_enter Try.func26, Try.ntmps26
      go_wp2_with (first
        | (go_at_call 52; refine (right_any _ _ _ _ _).mono ?_; rintro r w1 ⟨rfl, hb⟩; rw [Hr.out]; have B1 := below_only B0 hb; have R := row_below HR.out hb; have R2 := row_below HR2.out hb; obtain ⟨q0, q1, q2, q3, g0, g1, g2, g3⟩ := box4 R; obtain ⟨r0, r1, r2, r3, f0, f1, f2, f3⟩ := box4 R2; clear R R2)
        | (go_at_call 53; refine (within_any _ _ _ _).mono ?_; rintro r w2 ⟨rfl, rfl⟩; rw [Hf.out]))
      refine bodyPost_ret (by simp [results, Try.results26, go_sem, r0, r1, r2, r3]; rfl) rfl ?_
      exact ⟨rfl, by go_grown⟩

end Go.Proofs.Ytconieenkeajiaa
