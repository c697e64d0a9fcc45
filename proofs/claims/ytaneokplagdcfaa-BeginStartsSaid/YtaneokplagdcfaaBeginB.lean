/- The walks of head.Words, begin.Check and of the closures of begin's refuse. -/
import Derived.Test.YtaneokplagdcfaaBeginA
namespace Go.Proofs.Ytaneokplagdcfaa
open Go.RowKit

def wordsB (a b : Int) : Bool := inB a 0 6 && inB b 0 512
set_option maxRecDepth 100000 in
set_option maxHeartbeats 1000000 in
theorem numwords_any (b : Int) (w : World) (h0 : 0 ≤ b) (h1 : b ≤ 65536) : Calls Try.prog 81 #[.int .i64 b] w fun r w' => (∃ n, r = .returned (.tuple #[.int .i64 n, .int .i64 0]) ∧ 0 ≤ n ∧ n ≤ 65536) ∧ w' = w := by
  have HU := Lib.hid (up_any b w h0 h1)
  have u0 : 0 ≤ up8 b := by unfold up8; omega
  have u1 : up8 b ≤ 65544 := by unfold up8; omega
  obtain ⟨u, Hu⟩ : ∃ u, Hid (up8 b = u) := ⟨_, Lib.hid rfl⟩
  rw [Hu.out] at u0 u1
  have hd : u.tdiv 8 = u / 8 := Int.tdiv_eq_ediv_of_nonneg u0
  go_enter Try.func81, Try.ntmps81
  go_wp2_with fail
  refine HU.out.mono ?_
  rintro r w1 ⟨rfl, rfl⟩
  rw [Hu.out]
  go_wp2_with fail
  go_ret2
  exact ⟨⟨u / 8, rfl, by omega, by omega⟩, rfl⟩
set_option maxRecDepth 100000 in
set_option maxHeartbeats 1000000 in
theorem words_any (a b : Int) (w : World) : Calls Try.prog 56 #[.int .i64 a, .int .i64 b] w fun r w' => (∃ n, r = .returned (.tuple #[.int .i64 n, .int .i64 (if wordsB a b then 0 else 1)])) ∧ w' = w := by
  cases ea : inB a 0 6 with
  | false =>
    rw [show wordsB a b = false by simp [wordsB, ea]]
    go_enter Try.func56, Try.ntmps56
    go_wp2_with (go_at_call 47; refine (within_any _ _ _ _).mono ?_; rintro r w1 ⟨rfl, rfl⟩; rw [ea])
    go_returns
    exact ⟨⟨_, rfl⟩, rfl⟩
  | true =>
    cases eb : inB b 0 512 with
    | false =>
      rw [show wordsB a b = false by simp [wordsB, eb]]
      go_enter Try.func56, Try.ntmps56
      go_wp2_with (go_at_call 47; refine (within_any _ _ _ _).mono ?_; rintro r w1 ⟨rfl, rfl⟩; first | rw [ea] | rw [eb])
      go_returns
      exact ⟨⟨_, rfl⟩, rfl⟩
    | true =>
      rw [show wordsB a b = true by simp [wordsB, ea, eb]]
      have ha := of_decide_eq_true ea
      have hb := of_decide_eq_true eb
      have HW := Lib.hid (fun W => numwords_any b W hb.1 (by omega))
      go_enter Try.func56, Try.ntmps56
      go_wp2_with (first | (go_at_call 47; refine (within_any _ _ _ _).mono ?_; rintro r w1 ⟨rfl, rfl⟩; first | rw [ea] | rw [eb]) | (go_at_call 81; refine (HW.out _).mono ?_; rintro r w1 ⟨⟨n, rfl, n0, n1⟩, rfl⟩))
      go_returns
      exact ⟨⟨_, rfl⟩, rfl⟩

set_option maxRecDepth 100000 in
set_option maxHeartbeats 2000000 in
theorem check_any (P : Pln) (A : Option Addr) (c : Nat) (l : List Ent) (h : Int) (w : World) (hl : l.length ≤ 1048576) (he : Ents w A l) (h0 : 0 ≤ h) (h1 : h ≤ 18446744073709551615) :
    Calls Try.prog 13 #[P.val, .slice A l.length c, .int .u64 h] w fun r w' => r = .returned (.tuple #[.agg #[.int .i64 (checkR P.s l h).1.1, .int .i64 (checkR P.s l h).1.2.1, .int .i64 (checkR P.s l h).1.2.2], .int .i64 (checkR P.s l h).2]) ∧ Below w.heap.size w w' := by
  obtain ⟨ps, pt, pi, ph⟩ := P
  have He := Lib.hid he
  clear he
  have HU := Lib.hid (fun W => unpackR_any h W h0 h1)
  obtain ⟨us, ue, ua, uc, HR⟩ : ∃ us ue ua uc, Hid (unpackR h = ((us, ue, ua), uc)) := ⟨(unpackR h).1.1, _, _, _, Lib.hid rfl⟩
  have ub : 0 ≤ us ∧ us ≤ 255 := by
    have := HR.out
    unfold unpackR at this
    split at this
    · rename_i hr
      injection this with t1 t2
      injection t1 with t1 t3
      rw [← t1]
      constructor <;> omega
    · injection this with t1 t2
      injection t1 with t1 t3
      omega
  obtain ⟨u0, u1⟩ := ub
  have R1 := Lib.hid (show ((w.alloc (.cells #[.int .i64 ps, .int .i64 pt, .int .i64 pi, .int .i64 ph] 23)).alloc (.cells #[.int .i64 0, .int .i64 0, .int .i64 0] 44)).heap[w.heap.size]? = some (.cells #[.int .i64 ps, .int .i64 pt, .int .i64 pi, .int .i64 ph] 23 (0, 0)) from row_alloc (row_new w _ _))
  have R2 := Lib.hid (show ((w.alloc (.cells #[.int .i64 ps, .int .i64 pt, .int .i64 pi, .int .i64 ph] 23)).alloc (.cells #[.int .i64 0, .int .i64 0, .int .i64 0] 44)).heap[w.heap.size + 1]? = some (.cells #[.int .i64 0, .int .i64 0, .int .i64 0] 44 (0, 0)) from heap_at (by simp))
  have B0 := Lib.hid (show Below w.heap.size w ((w.alloc (.cells #[.int .i64 ps, .int .i64 pt, .int .i64 pi, .int .i64 ph] 23)).alloc (.cells #[.int .i64 0, .int .i64 0, .int .i64 0] 44)) by go_grown)
  by_cases hc : uc = 0
  · subst hc
    by_cases hs : ps ≤ us
    · skip
      have d1 : decide (us ≥ ps) = true := decide_eq_true hs
      have d2 : decide (ps ≤ us) = true := decide_eq_true hs
      have HC := Lib.hid (show checkR ps l h = ((0, 0, 0), 18) by unfold checkR; rw [HR.out]; simp only [not_true, if_false]; rw [if_pos hs])
      clear hs
      dsimp only
      rw [HC.out]
      go_enter Try.func13, Try.ntmps13
      go_wp2_with fail
      refine (HU.out _).mono ?_
      rintro r w1 ⟨rfl, hb⟩
      rw [HR.out]
      obtain ⟨a0, a1, a2, a3, _, _, _, _⟩ := box4 (row_below R1.out hb)
      have R2' := Lib.hid (row_below R2.out hb)
      obtain ⟨b0, b1, b2, f0, f1, f2⟩ := box3 R2'.out
      have B1 := below_only B0.out hb
      have z1 := lt_of_heap R2'.out
      have z0 : w.heap.size < w1.heap.size := by omega
      clear hb
      go_wp2_with fail
      obtain ⟨d0, d1', d2', _, _, _⟩ := box3 (row_alloc (o' := .cells #[.int .i64 us, .int .i64 ue, .int .i64 ua] 44) (row_three R2'.out (.int .i64 0) (.int .i64 0) (.int .i64 0)))
      refine bodyPost_ret (by simp [results, Try.results13, go_sem, d0, d1', d2']; rfl) rfl ?_
      exact ⟨rfl, by go_grown⟩

    · skip
      have d1 : decide (us ≥ ps) = false := decide_eq_false hs
      have d2 : decide (ps ≤ us) = false := decide_eq_false hs
      cases hr : reach l us with
      | false =>
        have HC := Lib.hid (show checkR ps l h = ((0, 0, 0), 20) by unfold checkR; rw [HR.out]; simp only [not_true, if_false]; rw [if_neg hs, if_pos hr])
        clear hs
        dsimp only
        rw [HC.out]
        go_enter Try.func13, Try.ntmps13
        go_wp2_with fail
        refine (HU.out _).mono ?_
        rintro r w1 ⟨rfl, hb⟩
        rw [HR.out]
        obtain ⟨a0, a1, a2, a3, _, _, _, _⟩ := box4 (row_below R1.out hb)
        have R2' := Lib.hid (row_below R2.out hb)
        obtain ⟨b0, b1, b2, f0, f1, f2⟩ := box3 R2'.out
        have B1 := below_only B0.out hb
        have z1 := lt_of_heap R2'.out
        have z0 : w.heap.size < w1.heap.size := by omega
        clear hb
        go_wp2_with fail
        refine (reach_any A c l _ _ (by omega) (Cells.alloc (Cells.below He.out B1) _)).mono ?_
        rintro r w3 ⟨rfl, hb3⟩
        rw [hr]
        have hX := row_below (row_new w1 #[.int .i64 us, .int .i64 ue, .int .i64 ua] 44) hb3
        obtain ⟨g0, g1, g2, _, _, _⟩ := box3 hX
        obtain ⟨b0', b1', b2', f0', f1', f2'⟩ := box3 (row_below (row_alloc (o' := .cells #[.int .i64 us, .int .i64 ue, .int .i64 ua] 44) R2'.out) hb3)
        have B3 := below_only (show Below w.heap.size w (w1.alloc (.cells #[.int .i64 us, .int .i64 ue, .int .i64 ua] 44)) by go_grown) hb3
        clear b0 b1 b2 f0 f1 f2 hX
        go_wp2_with fail
        obtain ⟨d0, d1', d2', _, _, _⟩ := box3 (row_three (row_below (row_alloc (o' := .cells #[.int .i64 us, .int .i64 ue, .int .i64 ua] 44) R2'.out) hb3) (.int .i64 0) (.int .i64 0) (.int .i64 0))
        refine bodyPost_ret (by simp [results, Try.results13, go_sem, d0, d1', d2']; rfl) rfl ?_
        exact ⟨rfl, by go_grown⟩

      | true =>
        have HC := Lib.hid (show checkR ps l h = ((us, ue, ua), 0) by unfold checkR; rw [HR.out]; simp only [not_true, if_false]; rw [if_neg hs, if_neg (by rw [hr]; simp)])
        clear hs
        dsimp only
        rw [HC.out]
        go_enter Try.func13, Try.ntmps13
        go_wp2_with fail
        refine (HU.out _).mono ?_
        rintro r w1 ⟨rfl, hb⟩
        rw [HR.out]
        obtain ⟨a0, a1, a2, a3, _, _, _, _⟩ := box4 (row_below R1.out hb)
        have R2' := Lib.hid (row_below R2.out hb)
        obtain ⟨b0, b1, b2, f0, f1, f2⟩ := box3 R2'.out
        have B1 := below_only B0.out hb
        have z1 := lt_of_heap R2'.out
        have z0 : w.heap.size < w1.heap.size := by omega
        clear hb
        go_wp2_with fail
        refine (reach_any A c l _ _ (by omega) (Cells.alloc (Cells.below He.out B1) _)).mono ?_
        rintro r w3 ⟨rfl, hb3⟩
        rw [hr]
        have hX := row_below (row_new w1 #[.int .i64 us, .int .i64 ue, .int .i64 ua] 44) hb3
        obtain ⟨g0, g1, g2, _, _, _⟩ := box3 hX
        obtain ⟨b0', b1', b2', f0', f1', f2'⟩ := box3 (row_below (row_alloc (o' := .cells #[.int .i64 us, .int .i64 ue, .int .i64 ua] 44) R2'.out) hb3)
        have B3 := below_only (show Below w.heap.size w (w1.alloc (.cells #[.int .i64 us, .int .i64 ue, .int .i64 ua] 44)) by go_grown) hb3
        clear b0 b1 b2 f0 f1 f2 hX
        go_wp2_with fail
        obtain ⟨d0, d1', d2', _, _, _⟩ := box3 (row_three (row_below (row_alloc (o' := .cells #[.int .i64 us, .int .i64 ue, .int .i64 ua] 44) R2'.out) hb3) (.int .i64 us) (.int .i64 ue) (.int .i64 ua))
        refine bodyPost_ret (by simp [results, Try.results13, go_sem, d0, d1', d2']; rfl) rfl ?_
        exact ⟨rfl, by go_grown⟩

  · skip
    have hc' : (uc != 0) = true := by simpa using hc
    have HC := Lib.hid (show checkR ps l h = ((0, 0, 0), 18) by unfold checkR; rw [HR.out]; simp only; rw [if_pos hc])
    clear hc
    dsimp only
    rw [HC.out]
    go_enter Try.func13, Try.ntmps13
    go_wp2_with fail
    refine (HU.out _).mono ?_
    rintro r w1 ⟨rfl, hb⟩
    rw [HR.out]
    obtain ⟨a0, a1, a2, a3, _, _, _, _⟩ := box4 (row_below R1.out hb)
    have R2' := Lib.hid (row_below R2.out hb)
    obtain ⟨b0, b1, b2, f0, f1, f2⟩ := box3 R2'.out
    have B1 := below_only B0.out hb
    have z1 := lt_of_heap R2'.out
    have z0 : w.heap.size < w1.heap.size := by omega
    clear hb
    go_wp2_with fail
    obtain ⟨d0, d1', d2', _, _, _⟩ := box3 (row_alloc (o' := .cells #[.int .i64 us, .int .i64 ue, .int .i64 ua] 44) (row_three R2'.out (.int .i64 0) (.int .i64 0) (.int .i64 0)))
    refine bodyPost_ret (by simp [results, Try.results13, go_sem, d0, d1', d2']; rfl) rfl ?_
    exact ⟨rfl, by go_grown⟩

end Go.Proofs.Ytaneokplagdcfaa
