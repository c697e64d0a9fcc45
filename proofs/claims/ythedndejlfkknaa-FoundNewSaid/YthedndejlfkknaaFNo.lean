/- Layer 14: plans that may not be. -/
import Derived.Test.YthedndejlfkknaaFLaw
namespace Go.Proofs.Ythedndejlfkknaa
open Go.RowKit
set_option linter.unusedVariables false
set_option linter.unusedSimpArgs false

instance (s t i h : Int) : Decidable (PlanOk s t i h) := decidable_of_iff (1 ≤ s ∧ s ≤ 8 ∧ 1 ≤ t ∧ t ≤ 4 ∧ 0 ≤ i ∧ i ≤ 2048 ∧ 0 ≤ h ∧ h ≤ 8192 ∧ i % 8 = 0 ∧ h % 8 = 0) ⟨fun ⟨a, b, c, d, e, f, g, h, i, j⟩ => ⟨a, b, c, d, e, f, g, h, i, j⟩, fun ⟨a, b, c, d, e, f, g, h, i, j⟩ => ⟨a, b, c, d, e, f, g, h, i, j⟩⟩

set_option maxRecDepth 100000 in
set_option maxHeartbeats 2000000 in
theorem planRight_no (s t i h : Int) (w : World) (H : ¬ PlanOk s t i h) :
    Calls Try.prog 72 #[.agg #[.int .i64 s, .int .i64 t, .int .i64 i, .int .i64 h]] w fun r w' => r = .returned (.bool false) ∧ Below w.heap.size w w' := by
  cases b1 : inB s 1 8 with
  | false =>
    clear H
    go_enter Try.func72, Try.ntmps72
    go_wp2_with (go_at_call 71; refine (within_any _ _ _ _).mono ?_; rintro r w1 ⟨rfl, rfl⟩; first | rw [b1])
    go_ret
    exact ⟨rfl, by go_grown⟩
  | true =>
    cases b2 : inB t 1 4 with
    | false =>
      clear H
      go_enter Try.func72, Try.ntmps72
      go_wp2_with (go_at_call 71; refine (within_any _ _ _ _).mono ?_; rintro r w1 ⟨rfl, rfl⟩; first | rw [b1] | rw [b2])
      go_ret
      exact ⟨rfl, by go_grown⟩
    | true =>
      cases b3 : inB i 0 2048 with
      | false =>
        clear H
        go_enter Try.func72, Try.ntmps72
        go_wp2_with (go_at_call 71; refine (within_any _ _ _ _).mono ?_; rintro r w1 ⟨rfl, rfl⟩; first | rw [b1] | rw [b2] | rw [b3])
        go_ret
        exact ⟨rfl, by go_grown⟩
      | true =>
        cases b4 : inB h 0 8192 with
        | false =>
          clear H
          go_enter Try.func72, Try.ntmps72
          go_wp2_with (go_at_call 71; refine (within_any _ _ _ _).mono ?_; rintro r w1 ⟨rfl, rfl⟩; first | rw [b1] | rw [b2] | rw [b3] | rw [b4])
          go_ret
          exact ⟨rfl, by go_grown⟩
        | true =>
          have H5 : ¬ (i % 8 = 0 ∧ h % 8 = 0) := fun hh => H (by
            simp only [inB, decide_eq_true_eq] at b1 b2 b3 b4
            exact ⟨b1.1, b1.2, b2.1, b2.2, b3.1, b3.2, b4.1, b4.2, hh.1, hh.2⟩)
          obtain ⟨z, hz⟩ : ∃ z, bits .or .i64 i h = z := ⟨_, rfl⟩
          have hr : 0 ≤ i ∧ i ≤ 2048 ∧ 0 ≤ h ∧ h ≤ 8192 := by
            simp only [inB, decide_eq_true_eq] at b3 b4
            omega
          have ho := or_mod8 i h (by omega) (by omega) (by omega) (by omega)
          rw [hz] at ho
          have hm : (z % 8 == 0) = false := by
            simp only [beq_eq_false_iff_ne, ne_eq]
            exact fun h9 => H5 (ho.2.2.1 h9)
          have hz0 := ho.1
          have hz1 := ho.2.1
          clear H H5 hr ho
          go_enter Try.func72, Try.ntmps72
          go_wp2_with (go_at_call 71; refine (within_any _ _ _ _).mono ?_; rintro r w1 ⟨rfl, rfl⟩; first | rw [b1] | rw [b2] | rw [b3] | rw [b4])
          go_ret
          exact ⟨rfl, by go_grown⟩

set_option maxRecDepth 100000 in
set_option maxHeartbeats 2000000 in
theorem planImm_no (s t i h : Int) (w : World) (H : ¬ PlanOk s t i h) :
    Calls Try.prog 37 #[.agg #[.int .i64 s, .int .i64 t, .int .i64 i, .int .i64 h]] w fun r w' => r = .returned (.tuple #[.agg #[.int .i64 0, .int .i64 0], .int .i64 1]) ∧ Below w.heap.size w w' := by
  have HR := fun w => Lib.hid (planRight_no s t i h w H)
  clear H
  go_enter Try.func37, Try.ntmps37
  go_upto_region 1 with fail
  refine two_rows' w _ _ _ _ ?_
  intro W hR hQ hB
  obtain ⟨x0, x1, x2, x3, _⟩ := box4 hR
  have HRow := Lib.hid hR
  have HQ := Lib.hid hQ
  clear hR hQ
  go_wp2_with fail
  refine (HR _).out.mono ?_
  rintro r w1 ⟨rfl, hb⟩
  clear x0 x1 x2 x3
  have hB1 := below_only hB hb
  have hs1 := hB1.size
  obtain ⟨y0, y1, y0f, y1f⟩ := box2 (row_below HQ.out hb)
  have zq := lt_of_heap (row_below HQ.out hb)
  have HQ1 := Lib.hid (row_below HQ.out hb)
  clear hb hB HRow HQ
  go_wp2_with fail
  refine bodyPost_ret (results_cell_row_tmp (fn := Try.f37) rfl _ _ (w.heap.size + 1) 65 #[.int .i64 0, .int .i64 0] (0, 0) _ rfl (row_two HQ1.out) Try.underlying65 rfl infoExt2) rfl ?_
  exact ⟨rfl, by go_grown⟩

set_option maxRecDepth 100000 in
set_option maxHeartbeats 2000000 in
theorem planHeap_no (s t i h : Int) (w : World) (H : ¬ PlanOk s t i h) :
    Calls Try.prog 35 #[.agg #[.int .i64 s, .int .i64 t, .int .i64 i, .int .i64 h]] w fun r w' => r = .returned (.tuple #[.agg #[.int .i64 0, .int .i64 0], .int .i64 1]) ∧ Below w.heap.size w w' := by
  have HR := fun w => Lib.hid (planImm_no s t i h w H)
  clear H
  go_enter Try.func35, Try.ntmps35
  go_upto_region 1 with fail
  refine two_rows' w _ _ _ _ ?_
  intro W hR hQ hB
  obtain ⟨x0, x1, x2, x3, _⟩ := box4 hR
  have HRow := Lib.hid hR
  have HQ := Lib.hid hQ
  clear hR hQ
  go_wp2_with fail
  refine (HR _).out.mono ?_
  rintro r w1 ⟨rfl, hb⟩
  clear x0 x1 x2 x3
  have hB1 := below_only hB hb
  have hs1 := hB1.size
  obtain ⟨y0, y1, y0f, y1f⟩ := box2 (row_below HQ.out hb)
  have zq := lt_of_heap (row_below HQ.out hb)
  have HQ1 := Lib.hid (row_below HQ.out hb)
  clear hb hB HRow HQ
  go_wp2_with fail
  refine bodyPost_ret (results_cell_row_tmp (fn := Try.f35) rfl _ _ (w.heap.size + 1) 65 #[.int .i64 0, .int .i64 0] (0, 0) _ rfl (row_alloc (row_two HQ1.out)) Try.underlying65 rfl infoExt2) rfl ?_
  exact ⟨rfl, by go_grown⟩

set_option maxRecDepth 100000 in
set_option maxHeartbeats 2000000 in
theorem planSize_no (s t i h : Int) (w : World) (H : ¬ PlanOk s t i h) :
    Calls Try.prog 33 #[.agg #[.int .i64 s, .int .i64 t, .int .i64 i, .int .i64 h]] w fun r w' => r = .returned (.tuple #[.int .i64 0, .int .i64 1]) ∧ Below w.heap.size w w' := by
  have HR := fun w => Lib.hid (planHeap_no s t i h w H)
  clear H
  go_enter Try.func33, Try.ntmps33
  go_upto_region 1 with fail
  refine one_row w _ _ ?_
  intro W hR hB
  obtain ⟨x0, x1, x2, x3, _⟩ := box4 hR
  clear hR
  go_wp2_with fail
  refine (HR _).out.mono ?_
  rintro r w1 ⟨rfl, hb⟩
  clear x0 x1 x2 x3
  have hB1 := below_only hB hb
  have hs1 := hB1.size
  clear hb hB
  go_wp2_with fail
  go_ret2
  exact ⟨rfl, by go_grown⟩

set_option maxRecDepth 100000 in
set_option maxHeartbeats 2000000 in
theorem foundNew_no (s t i h : Int) (w : World) (H : ¬ PlanOk s t i h) :
    Calls Try.prog 11 #[.agg #[.int .i64 s, .int .i64 t, .int .i64 i, .int .i64 h]] w fun r w' => r = .returned (.tuple #[.pointer none, .pointer none, .int .i64 1]) ∧ Below w.heap.size w w' := by
  have HR := fun w => Lib.hid (planSize_no s t i h w H)
  clear H
  go_enter Try.func11, Try.ntmps11
  go_upto_region 1 with fail
  refine one_row w _ _ ?_
  intro W hR hB
  obtain ⟨x0, x1, x2, x3, _⟩ := box4 hR
  clear hR
  go_wp2_with fail
  refine (HR _).out.mono ?_
  rintro r w1 ⟨rfl, hb⟩
  clear x0 x1 x2 x3
  have hB1 := below_only hB hb
  have hs1 := hB1.size
  clear hb hB
  go_wp2_with fail
  go_ret3
  exact ⟨rfl, by go_grown⟩

set_option maxRecDepth 100000 in
set_option maxHeartbeats 2000000 in
theorem rplanRight_any (s t i h : Int) (w : World) :
    Calls Try.prog 19 #[.agg #[.int .i64 s, .int .i64 t, .int .i64 i, .int .i64 h]] w fun r w' => r = .returned (.bool (decide (PlanOk s t i h))) ∧ Below w.heap.size w w' := by
  by_cases c0 : 1 ≤ s
  · skip
    by_cases c1 : s ≤ 8
    · skip
      by_cases c2 : 1 ≤ t
      · skip
        by_cases c3 : t ≤ 4
        · skip
          by_cases c4 : 0 ≤ i
          · skip
            by_cases c5 : i ≤ 2048
            · skip
              by_cases c6 : 0 ≤ h
              · skip
                by_cases c7 : h ≤ 8192
                · skip
                  by_cases c8 : i % 8 = 0
                  · skip
                    by_cases c9 : h % 8 = 0
                    · skip
                      have m8 : (i.tmod 8 == 0) = true := by rw [Int.tmod_eq_emod_of_nonneg c4]; simpa using c8
                      have n8 : (h.tmod 8 == 0) = true := by rw [Int.tmod_eq_emod_of_nonneg c6]; simpa using c9
                      have m8' : (i % 8 == 0) = true := by simpa using c8
                      have n8' : (h % 8 == 0) = true := by simpa using c9
                      rw [decide_eq_true (show PlanOk s t i h from ⟨c0, c1, c2, c3, c4, c5, c6, c7, c8, c9⟩)]
                      clear c8 c9
                      go_enter Try.func19, Try.ntmps19
                      go_wp2_with fail
                      go_ret
                      exact ⟨rfl, by go_grown⟩
                    · skip
                      rw [decide_eq_false (show ¬ PlanOk s t i h from fun h9 => c9 h9.h8)]
                      have m8 : (i.tmod 8 == 0) = true := by rw [Int.tmod_eq_emod_of_nonneg c4]; simpa using c8
                      have n8 : (h.tmod 8 == 0) = false := by rw [Int.tmod_eq_emod_of_nonneg c6]; simpa using c9
                      have m8' : (i % 8 == 0) = true := by simpa using c8
                      have n8' : (h % 8 == 0) = false := by simpa using c9
                      clear c8 c9
                      go_enter Try.func19, Try.ntmps19
                      go_wp2_with fail
                      go_ret
                      exact ⟨rfl, by go_grown⟩
                  · skip
                    rw [decide_eq_false (show ¬ PlanOk s t i h from fun h9 => c8 h9.i8)]
                    have m8 : (i.tmod 8 == 0) = false := by rw [Int.tmod_eq_emod_of_nonneg c4]; simpa using c8
                    have m8' : (i % 8 == 0) = false := by simpa using c8
                    clear c8
                    go_enter Try.func19, Try.ntmps19
                    go_wp2_with fail
                    go_ret
                    exact ⟨rfl, by go_grown⟩
                · skip
                  rw [decide_eq_false (show ¬ PlanOk s t i h from fun h9 => c7 h9.h1)]
                  go_enter Try.func19, Try.ntmps19
                  go_wp2_with fail
                  go_ret
                  exact ⟨rfl, by go_grown⟩
              · skip
                rw [decide_eq_false (show ¬ PlanOk s t i h from fun h9 => c6 h9.h0)]
                go_enter Try.func19, Try.ntmps19
                go_wp2_with fail
                go_ret
                exact ⟨rfl, by go_grown⟩
            · skip
              rw [decide_eq_false (show ¬ PlanOk s t i h from fun h9 => c5 h9.i1)]
              go_enter Try.func19, Try.ntmps19
              go_wp2_with fail
              go_ret
              exact ⟨rfl, by go_grown⟩
          · skip
            rw [decide_eq_false (show ¬ PlanOk s t i h from fun h9 => c4 h9.i0)]
            go_enter Try.func19, Try.ntmps19
            go_wp2_with fail
            go_ret
            exact ⟨rfl, by go_grown⟩
        · skip
          rw [decide_eq_false (show ¬ PlanOk s t i h from fun h9 => c3 h9.t1)]
          go_enter Try.func19, Try.ntmps19
          go_wp2_with fail
          go_ret
          exact ⟨rfl, by go_grown⟩
      · skip
        rw [decide_eq_false (show ¬ PlanOk s t i h from fun h9 => c2 h9.t0)]
        go_enter Try.func19, Try.ntmps19
        go_wp2_with fail
        go_ret
        exact ⟨rfl, by go_grown⟩
    · skip
      rw [decide_eq_false (show ¬ PlanOk s t i h from fun h9 => c1 h9.s1)]
      go_enter Try.func19, Try.ntmps19
      go_wp2_with fail
      go_ret
      exact ⟨rfl, by go_grown⟩
  · skip
    rw [decide_eq_false (show ¬ PlanOk s t i h from fun h9 => c0 h9.s0)]
    go_enter Try.func19, Try.ntmps19
    go_wp2_with fail
    go_ret
    exact ⟨rfl, by go_grown⟩

end Go.Proofs.Ythedndejlfkknaa
