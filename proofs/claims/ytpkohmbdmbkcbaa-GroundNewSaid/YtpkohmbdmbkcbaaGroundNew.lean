/- The law GroundNew's walk. -/
import Derived.Test.YtpkohmbdmbkcbaaGroundI
namespace Go.Proofs.Ytpkohmbdmbkcbaa
open Go.RowKit

theorem newMay_f {a s : Int} (h : ¬ (0 ≤ a ∧ 0 ≤ s ∧ a ≤ 65536 ∧ s ≤ 65536 ∧ a % 8 = 0 ∧ s % 8 = 0)) : newMay a s = false := by
  cases hb : newMay a s with
  | false => rfl
  | true =>
    unfold newMay inB at hb
    simp only [Bool.and_eq_true, decide_eq_true_eq] at hb
    omega
theorem newMay_t {a s : Int} (h : 0 ≤ a ∧ 0 ≤ s ∧ a ≤ 65536 ∧ s ≤ 65536 ∧ a % 8 = 0 ∧ s % 8 = 0) : newMay a s = true := by
  unfold newMay inB
  simp only [Bool.and_eq_true, decide_eq_true_eq]
  omega

set_option maxHeartbeats 2000000 in
theorem groundNew_walk (a s : Int) (w : World) (ha : (Lit.int .i64 a).wf = true) (hs : (Lit.int .i64 s).wf = true) :
    Calls Try.prog 4 #[.int .i64 a, .int .i64 s] w fun e w' => e = .returned (.bool true) ∧ Below w.heap.size w w' := by
  obtain ⟨ha0, ha1⟩ := wf_int ha
  obtain ⟨hs0, hs1⟩ := wf_int hs
  clear ha hs
  by_cases c0 : 0 ≤ a
  · have d0 : decide (0 ≤ a) = true := decide_eq_true c0
    by_cases c1 : 0 ≤ s
    · have d1 : decide (0 ≤ s) = true := decide_eq_true c1
      by_cases c2 : a ≤ 65536
      · have d2 : decide (a ≤ 65536) = true := decide_eq_true c2
        by_cases c3 : s ≤ 65536
        · have d3 : decide (s ≤ 65536) = true := decide_eq_true c3
          by_cases c4 : a % 8 = 0
          · have d4 : ((a % 8 : Int) == 0) = true := by rw [c4]; rfl
            by_cases c5 : s % 8 = 0
            · have d5 : ((s % 8 : Int) == 0) = true := by rw [c5]; rfl
              have hgood : newMay a s = true := newMay_t (by omega)
              have C4 := Lib.hid c4
              have C5 := Lib.hid c5
              clear c4 c5
              by_cases hz : s = 0
              · have z0 : (s == 0) = true := by simp [hz]
                have Hl := Lib.hid (show oneExt a s = [] by rw [oneExt, if_pos hz])
                clear hz
                go_enter Try.func4, Try.ntmps4
                go_wp2_with fail
                refine (shown_any _).mono ?_
                rintro r w1 ⟨rfl, hb⟩
                go_wp2_with fail
                refine (new_good a s _ hgood).mono ?_
                rintro r w2 ⟨p, q, rfl, hG, hB⟩
                have hB2 := below_only hb hB
                rw [Hl.out] at hG
                have HG := Lib.hid hG
                clear hG hB hb hgood
                go_wp2_with fail
                refine (free_any _ p a (a + s) [] q _ HG.out).mono ?_
                rintro r w3 ⟨v, rfl, A3, c3, rfl, hc3, hcs3, _, hb⟩
                have hB3 := below_only hB2 hb
                clear hb hB2 HG hcs3
                rw [List.length_nil]
                go_wp2_with fail
                go_ret
                exact ⟨rfl, hB3⟩
              · have z0 : (s == 0) = false := by simp [hz]
                have Hl := Lib.hid (show oneExt a s = [(a, s)] by rw [oneExt, if_neg hz])
                clear hz
                go_enter Try.func4, Try.ntmps4
                go_wp2_with fail
                refine (shown_any _).mono ?_
                rintro r w1 ⟨rfl, hb⟩
                go_wp2_with fail
                refine (new_good a s _ hgood).mono ?_
                rintro r w2 ⟨p, q, rfl, hG, hB⟩
                have hB2 := below_only hb hB
                rw [Hl.out] at hG
                have HG := Lib.hid hG
                clear hG hB hb hgood
                go_wp2_with fail
                refine (free_any _ p a (a + s) [(a, s)] q _ HG.out).mono ?_
                rintro r w3 ⟨v, rfl, A3, c3, rfl, hc3, hcs3, _, hb⟩
                have hB3 := below_only hB2 hb
                obtain ⟨b, off, rfl, _, hc⟩ := exts_at hcs3 (by simp)
                obtain ⟨x0, x1⟩ := hc 0 (a, s) rfl
                simp only [Nat.zero_mul, Nat.add_zero] at x0 x1
                clear hb hB2 HG hcs3 hc
                rw [show List.length [(a, s)] = 1 from rfl]
                go_wp2_with fail
                go_ret
                exact ⟨rfl, hB3⟩
            · have d5 : ((s % 8 : Int) == 0) = false := by rw [beq_eq_false_iff_ne]; exact c5
              have hbad : newMay a s = false := newMay_f (by omega)
              have C4 := Lib.hid c4
              clear c4 c5
              go_enter Try.func4, Try.ntmps4
              go_wp2_with fail
              refine (shown_any _).mono ?_
              rintro r w1 ⟨rfl, hb⟩
              go_wp2_with fail
              refine (new_bad a s _ hbad).mono ?_
              rintro r w2 ⟨rfl, rfl⟩
              clear hbad
              go_wp2_with fail
              go_ret
              exact ⟨rfl, hb⟩
          · have d4 : ((a % 8 : Int) == 0) = false := by rw [beq_eq_false_iff_ne]; exact c4
            have hbad : newMay a s = false := newMay_f (by omega)
            clear c4
            go_enter Try.func4, Try.ntmps4
            go_wp2_with fail
            refine (shown_any _).mono ?_
            rintro r w1 ⟨rfl, hb⟩
            go_wp2_with fail
            refine (new_bad a s _ hbad).mono ?_
            rintro r w2 ⟨rfl, rfl⟩
            clear hbad
            go_wp2_with fail
            go_ret
            exact ⟨rfl, hb⟩
        · have d3 : decide (s ≤ 65536) = false := decide_eq_false c3
          have hbad : newMay a s = false := newMay_f (by omega)
          clear c3
          go_enter Try.func4, Try.ntmps4
          go_wp2_with fail
          refine (shown_any _).mono ?_
          rintro r w1 ⟨rfl, hb⟩
          go_wp2_with fail
          refine (new_bad a s _ hbad).mono ?_
          rintro r w2 ⟨rfl, rfl⟩
          clear hbad
          go_wp2_with fail
          go_ret
          exact ⟨rfl, hb⟩
      · have d2 : decide (a ≤ 65536) = false := decide_eq_false c2
        have hbad : newMay a s = false := newMay_f (by omega)
        clear c2
        go_enter Try.func4, Try.ntmps4
        go_wp2_with fail
        refine (shown_any _).mono ?_
        rintro r w1 ⟨rfl, hb⟩
        go_wp2_with fail
        refine (new_bad a s _ hbad).mono ?_
        rintro r w2 ⟨rfl, rfl⟩
        clear hbad
        go_wp2_with fail
        go_ret
        exact ⟨rfl, hb⟩
    · have d1 : decide (0 ≤ s) = false := decide_eq_false c1
      have hbad : newMay a s = false := newMay_f (by omega)
      clear c1
      go_enter Try.func4, Try.ntmps4
      go_wp2_with fail
      refine (shown_any _).mono ?_
      rintro r w1 ⟨rfl, hb⟩
      go_wp2_with fail
      refine (new_bad a s _ hbad).mono ?_
      rintro r w2 ⟨rfl, rfl⟩
      clear hbad
      go_wp2_with fail
      go_ret
      exact ⟨rfl, hb⟩
  · have d0 : decide (0 ≤ a) = false := decide_eq_false c0
    have hbad : newMay a s = false := newMay_f (by omega)
    clear c0
    go_enter Try.func4, Try.ntmps4
    go_wp2_with fail
    refine (shown_any _).mono ?_
    rintro r w1 ⟨rfl, hb⟩
    go_wp2_with fail
    refine (new_bad a s _ hbad).mono ?_
    rintro r w2 ⟨rfl, rfl⟩
    clear hbad
    go_wp2_with fail
    go_ret
    exact ⟨rfl, hb⟩

end Go.Proofs.Ytpkohmbdmbkcbaa
