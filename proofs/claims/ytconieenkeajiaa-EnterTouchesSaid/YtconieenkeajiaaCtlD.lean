/- The walk of package ctl's Unpack; of the reference's Right, Pack, Unpack. -/
import Derived.Test.YtconieenkeajiaaCtlC
namespace Go.Proofs.Ytconieenkeajiaa
open Go.RowKit

set_option maxRecDepth 100000 in
set_option maxHeartbeats 1000000 in
theorem unpack_any (x : Int) (w : World) (h0 : 0 ≤ x) (h1 : x ≤ 18446744073709551615) :
    Calls Try.prog 44 #[.int .u64 x] w fun r w' => r = .returned (.tuple #[(unpack x).1.val, .int .i64 (unpack x).2]) ∧ Below w.heap.size w w' := by
  have HR := Lib.hid (show (w.alloc (.cells #[.int .i64 0, .int .i64 0, .int .i64 0, .int .i64 0] 23)).heap[w.heap.size]? = some (.cells #[.int .i64 0, .int .i64 0, .int .i64 0, .int .i64 0] 23) from row_new w _ _)
  have B0 : Below w.heap.size w (w.alloc (.cells #[.int .i64 0, .int .i64 0, .int .i64 0, .int .i64 0] 23)) := by go_grown
  have HT := Lib.hid (show told x = ⟨x % 4, x / 4 % 256, x / 1024 % 256 - 1, x / 262144 % 16777216⟩ from rfl)
  have a0 : 0 ≤ x % 4 := by omega
  have a1 : x % 4 < 4 := by omega
  have b0 : 0 ≤ x / 4 % 256 := by omega
  have b1 : x / 4 % 256 < 256 := by omega
  have c0 : 0 ≤ x / 1024 % 256 := by omega
  have c1 : x / 1024 % 256 < 256 := by omega
  have d0 : 0 ≤ x / 262144 % 16777216 := by omega
  have d1 : x / 262144 % 16777216 < 16777216 := by omega
  have hz : (x / 4398046511104 != 0) = !decide (x < 4398046511104) := by
    rw [Bool.eq_iff_iff]; simp; omega
  have P : ∀ (R : Ctl → Int → Prop), True := fun _ => trivial
  clear P
  obtain ⟨s, Hs⟩ : ∃ s, Hid (s = x % 4) := ⟨_, rfl⟩
  obtain ⟨n, Hn⟩ : ∃ s, Hid (s = x / 4 % 256) := ⟨_, rfl⟩
  obtain ⟨p, Hp⟩ : ∃ s, Hid (s = x / 1024 % 256) := ⟨_, rfl⟩
  obtain ⟨e, He⟩ : ∃ s, Hid (s = x / 262144 % 16777216) := ⟨_, rfl⟩
  rw [← Hs.out] at a0 a1
  rw [← Hn.out] at b0 b1
  rw [← Hp.out] at c0 c1
  rw [← He.out] at d0 d1
  have HU := Lib.hid (show unpack x = if Right ⟨s, n, p - 1, e⟩ ∧ x < 4398046511104 then (⟨s, n, p - 1, e⟩, 0) else (noCtl, 1) by rw [unpack, HT.out, ← Hs.out, ← Hn.out, ← Hp.out, ← He.out])
  clear HT
  have HZ := Lib.hid hz
  clear hz
  by_cases hr : Right ⟨s, n, p - 1, e⟩
  · by_cases hx : x < 4398046511104
    · rw [HU.out, if_pos ⟨hr, hx⟩]
      have Hr := Lib.hid (rightB_t hr)
      have hq : (x / 4398046511104 != 0) = false := by rw [HZ.out]; simp [hx]
      clear hr hx HU
      go_enter Try.func44, Try.ntmps44
      go_wp2_with fail
      refine (part0_any x _ h0 h1).mono ?_
      rintro r w1 ⟨rfl, hb⟩
      rw [← Hs.out]
      have B1 := below_only B0 hb
      have R := row_below HR.out hb
      have HR1 := Lib.hid R
      clear R hb
      go_wp2_with fail
      refine (part2_any x _ h0 h1).mono ?_
      rintro r w2 ⟨rfl, hb⟩
      rw [← Hn.out]
      have B2 := below_only B1 hb
      have R := row_below HR1.out hb
      have HR2 := Lib.hid R
      clear R hb B1
      go_wp2_with fail
      refine (part10_any x _ h0 h1).mono ?_
      rintro r w3 ⟨rfl, hb⟩
      rw [← Hp.out]
      have B3 := below_only B2 hb
      have R := row_below HR2.out hb
      have HR3 := Lib.hid R
      clear R hb B2
      go_wp2_with fail
      refine (part18_any x _ h0 h1).mono ?_
      rintro r w4 ⟨rfl, hb⟩
      rw [← He.out]
      have B4 := below_only B3 hb
      have R := row_below HR3.out hb
      have HR4 := Lib.hid R
      clear hb B3
      obtain ⟨r0, r1, r2, r3, f0, f1, f2, f3⟩ := box4 R
      clear R
      go_wp2_with fail
      refine (right_any _ _ _ _ _).mono ?_
      rintro r w5 ⟨rfl, hb⟩
      rw [Hr.out]
      have B5 := below_only (B4.alloc B4.size _) hb
      have R := row_below (row_alloc HR4.out) hb
      have R2 := row_below (row_new w4 #[.int .i64 s, .int .i64 n, .int .i64 (p - 1), .int .i64 e] 23) hb
      have g4 := lt_of_heap HR4.out
      clear hb r0 r1 r2 r3 f0 f1 f2 f3
      obtain ⟨r0, r1, r2, r3, f0, f1, f2, f3⟩ := box4 R
      obtain ⟨q0, q1, q2, q3, _, _, _, _⟩ := box4 R2
      clear R R2
      go_wp2
      refine bodyPost_ret (by simp [results, Try.results44, go_sem, r0, r1, r2, r3]; rfl) rfl ?_
      exact ⟨rfl, by go_grown⟩
    · rw [HU.out, if_neg (fun h => hx h.2)]
      have Hr := Lib.hid (rightB_t hr)
      have hq : (x / 4398046511104 != 0) = true := by rw [HZ.out]; simp [hx]
      clear hr hx HU
      go_enter Try.func44, Try.ntmps44
      go_wp2_with fail
      refine (part0_any x _ h0 h1).mono ?_
      rintro r w1 ⟨rfl, hb⟩
      rw [← Hs.out]
      have B1 := below_only B0 hb
      have R := row_below HR.out hb
      have HR1 := Lib.hid R
      clear R hb
      go_wp2_with fail
      refine (part2_any x _ h0 h1).mono ?_
      rintro r w2 ⟨rfl, hb⟩
      rw [← Hn.out]
      have B2 := below_only B1 hb
      have R := row_below HR1.out hb
      have HR2 := Lib.hid R
      clear R hb B1
      go_wp2_with fail
      refine (part10_any x _ h0 h1).mono ?_
      rintro r w3 ⟨rfl, hb⟩
      rw [← Hp.out]
      have B3 := below_only B2 hb
      have R := row_below HR2.out hb
      have HR3 := Lib.hid R
      clear R hb B2
      go_wp2_with fail
      refine (part18_any x _ h0 h1).mono ?_
      rintro r w4 ⟨rfl, hb⟩
      rw [← He.out]
      have B4 := below_only B3 hb
      have R := row_below HR3.out hb
      have HR4 := Lib.hid R
      clear hb B3
      obtain ⟨r0, r1, r2, r3, f0, f1, f2, f3⟩ := box4 R
      clear R
      go_wp2_with fail
      refine (right_any _ _ _ _ _).mono ?_
      rintro r w5 ⟨rfl, hb⟩
      rw [Hr.out]
      have B5 := below_only (B4.alloc B4.size _) hb
      have R := row_below (row_alloc HR4.out) hb
      have R2 := row_below (row_new w4 #[.int .i64 s, .int .i64 n, .int .i64 (p - 1), .int .i64 e] 23) hb
      have g4 := lt_of_heap HR4.out
      clear hb r0 r1 r2 r3 f0 f1 f2 f3
      obtain ⟨r0, r1, r2, r3, f0, f1, f2, f3⟩ := box4 R
      obtain ⟨q0, q1, q2, q3, _, _, _, _⟩ := box4 R2
      clear R R2
      go_wp2
      refine bodyPost_ret (by simp [results, Try.results44, go_sem, r0, r1, r2, r3]; rfl) rfl ?_
      exact ⟨rfl, by go_grown⟩
  · rw [HU.out, if_neg (fun h => hr h.1)]
    have Hr := Lib.hid (rightB_f hr)
    clear hr HU
    go_enter Try.func44, Try.ntmps44
    go_wp2_with fail
    refine (part0_any x _ h0 h1).mono ?_
    rintro r w1 ⟨rfl, hb⟩
    rw [← Hs.out]
    have B1 := below_only B0 hb
    have R := row_below HR.out hb
    have HR1 := Lib.hid R
    clear R hb
    go_wp2_with fail
    refine (part2_any x _ h0 h1).mono ?_
    rintro r w2 ⟨rfl, hb⟩
    rw [← Hn.out]
    have B2 := below_only B1 hb
    have R := row_below HR1.out hb
    have HR2 := Lib.hid R
    clear R hb B1
    go_wp2_with fail
    refine (part10_any x _ h0 h1).mono ?_
    rintro r w3 ⟨rfl, hb⟩
    rw [← Hp.out]
    have B3 := below_only B2 hb
    have R := row_below HR2.out hb
    have HR3 := Lib.hid R
    clear R hb B2
    go_wp2_with fail
    refine (part18_any x _ h0 h1).mono ?_
    rintro r w4 ⟨rfl, hb⟩
    rw [← He.out]
    have B4 := below_only B3 hb
    have R := row_below HR3.out hb
    have HR4 := Lib.hid R
    clear hb B3
    obtain ⟨r0, r1, r2, r3, f0, f1, f2, f3⟩ := box4 R
    clear R
    go_wp2_with fail
    refine (right_any _ _ _ _ _).mono ?_
    rintro r w5 ⟨rfl, hb⟩
    rw [Hr.out]
    have B5 := below_only (B4.alloc B4.size _) hb
    have R := row_below (row_alloc HR4.out) hb
    have R2 := row_below (row_new w4 #[.int .i64 s, .int .i64 n, .int .i64 (p - 1), .int .i64 e] 23) hb
    have g4 := lt_of_heap HR4.out
    clear hb r0 r1 r2 r3 f0 f1 f2 f3
    obtain ⟨r0, r1, r2, r3, f0, f1, f2, f3⟩ := box4 R
    obtain ⟨q0, q1, q2, q3, _, _, _, _⟩ := box4 R2
    clear R R2
    go_wp2
    refine bodyPost_ret (by simp [results, Try.results44, go_sem, r0, r1, r2, r3]; rfl) rfl ?_
    exact ⟨rfl, by go_grown⟩

end Go.Proofs.Ytconieenkeajiaa
