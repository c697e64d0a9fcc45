/- The walks of num.Within and of package ctl's kind, Right, of. The walks of package ctl's part, of, Pack, Unpack, Enter, Leave, Open, Hold. The walks of package ctl's Unpack, Enter, Leave, Open, Hold. The walk of package ctl's Unpack; of the reference's Right, Pack, Unpack. -/
import Derived.Test.YtbijaloeilnjoaaGreatMA
import Derived.Test.YtbijaloeilnjoaaGreatNum
import Derived.BigGuardPart
namespace Go.Proofs.YtbijaloeilnjoaaGreat
open Go.RowKit

def kindOf (s : Int) : Int := if s = 0 ∨ s = 1 then 0 else if s = 2 then 1 else if s = 3 then 2 else -1
theorem state_cases (s : Int) : s = 0 ∨ s = 1 ∨ s = 2 ∨ s = 3 ∨ ((s == 0) = false ∧ (s == 1) = false ∧ (s == 2) = false ∧ (s == 3) = false) := by
 simp; omega
theorem kindOf_other {s : Int} (h : (s == 0) = false ∧ (s == 1) = false ∧ (s == 2) = false ∧ (s == 3) = false) : kindOf s = -1 := by
 simp at h; simp [kindOf, h]

set_option maxRecDepth 100000 in
set_option maxHeartbeats 400000 in
theorem kind_any (s : Int) (w : World) : Calls Tryz.prog 141 #[.int .i64 s] w fun e w' => e = .returned (.int .i64 (kindOf s)) ∧ w' = w := by
 rcases state_cases s with rfl | rfl | rfl | rfl | h
 case' inr.inr.inr.inr =>
  rw [kindOf_other h]
  obtain ⟨h0, h1, h2, h3⟩ := h
 all_goals
  go_enter Tryz.func141, Tryz.ntmps141
  go_wp2
  go_ret
  exact ⟨rfl, rfl⟩

theorem right_eq {s n p e : Int} (he : 0 ≤ e ∧ e ≤ 16777215) : rightB ⟨s, n, p, e⟩ = (if kindOf s = 0 then decide (n = 0 ∧ p = -1) else if kindOf s = 1 then decide (1 ≤ n ∧ n ≤ 7 ∧ -1 ≤ p ∧ p ≤ 7) else if kindOf s = 2 then decide (n = 0 ∧ -1 ≤ p ∧ p ≤ 7) else false) := by
 unfold rightB
 rw [Bool.eq_iff_iff]
 rcases state_cases s with rfl | rfl | rfl | rfl | h
 case inr.inr.inr.inr =>
  rw [kindOf_other h]
  simp at h ⊢
  rintro ⟨_, _, h'⟩
  simp at h'
  omega
 all_goals simp [kindOf, Right, he]

theorem kind_cases (s : Int) : kindOf s = 0 ∨ kindOf s = 1 ∨ kindOf s = 2 ∨ kindOf s = -1 := by
 unfold kindOf
 by_cases h0 : s = 0 ∨ s = 1
 ·simp [h0]
 ·by_cases h2 : s = 2
  ·simp [h2]
  ·by_cases h3 : s = 3 <;> simp [h0, h2, h3]

set_option maxRecDepth 100000 in
set_option maxHeartbeats 2000000 in
theorem right_any (s n p e : Int) (w : World) :
  Calls Tryz.prog 105 #[.agg #[.int .i64 s, .int .i64 n, .int .i64 p, .int .i64 e]] w fun r w' => r = .returned (.bool (rightB ⟨s, n, p, e⟩)) ∧ Below w.heap.size w w' := by
 by_cases he : 0 ≤ e ∧ e ≤ 16777215
 ·skip
  rcases kind_cases s with hk | hk | hk | hk
  ·by_cases hn : n = 0
   ·subst hn
    rw [show rightB ⟨s, 0, p, e⟩ = (p == -1) by rw [right_eq he, hk]; simp; rfl]
    have He := Lib.hid (inB_t he); have Hk := Lib.hid hk; clear he hk
    have Hw := He
    go_enter Tryz.func105, Tryz.ntmps105
    go_wp2_with (first
     | (go_at_call 103; refine (within_any _ _ _ _).mono ?_; rintro r w1 ⟨rfl, rfl⟩; (first | rw [He.out] | rw [Hw.out] | skip))
     | (go_at_call 141; refine (kind_any _ _).mono ?_; rintro r w1 ⟨rfl, rfl⟩; rw [Hk.out]))
    go_ret
    exact ⟨rfl, by go_grown⟩
   ·have hn' : (n == 0) = false := by simpa using hn
    rw [show rightB ⟨s, n, p, e⟩ = false by rw [right_eq he, hk]; simp [hn]]
    have He := Lib.hid (inB_t he); have Hk := Lib.hid hk; clear he hk
    have Hw := He
    clear hn
    go_enter Tryz.func105, Tryz.ntmps105
    go_wp2_with (first
     | (go_at_call 103; refine (within_any _ _ _ _).mono ?_; rintro r w1 ⟨rfl, rfl⟩; (first | rw [He.out] | rw [Hw.out] | skip))
     | (go_at_call 141; refine (kind_any _ _).mono ?_; rintro r w1 ⟨rfl, rfl⟩; rw [Hk.out]))
    go_ret
    exact ⟨rfl, by go_grown⟩
  ·by_cases hn : 1 ≤ n ∧ n ≤ 7
   ·have hw := inB_t hn
    rw [show rightB ⟨s, n, p, e⟩ = inB p (-1) 7 by rw [right_eq he, hk]; simp [hn, inB]]
    have He := Lib.hid (inB_t he); have Hk := Lib.hid hk; clear he hk
    have Hw := Lib.hid hw; clear hw hn
    go_enter Tryz.func105, Tryz.ntmps105
    go_wp2_with (first
     | (go_at_call 103; refine (within_any _ _ _ _).mono ?_; rintro r w1 ⟨rfl, rfl⟩; (first | rw [He.out] | rw [Hw.out] | skip))
     | (go_at_call 141; refine (kind_any _ _).mono ?_; rintro r w1 ⟨rfl, rfl⟩; rw [Hk.out]))
    go_ret
    exact ⟨rfl, by go_grown⟩
   ·have hw := inB_f hn
    rw [show rightB ⟨s, n, p, e⟩ = false by rw [right_eq he, hk]; simp; omega]
    have He := Lib.hid (inB_t he); have Hk := Lib.hid hk; clear he hk
    have Hw := Lib.hid hw; clear hw hn
    go_enter Tryz.func105, Tryz.ntmps105
    go_wp2_with (first
     | (go_at_call 103; refine (within_any _ _ _ _).mono ?_; rintro r w1 ⟨rfl, rfl⟩; (first | rw [He.out] | rw [Hw.out] | skip))
     | (go_at_call 141; refine (kind_any _ _).mono ?_; rintro r w1 ⟨rfl, rfl⟩; rw [Hk.out]))
    go_ret
    exact ⟨rfl, by go_grown⟩
  ·by_cases hn : n = 0
   ·subst hn
    rw [show rightB ⟨s, 0, p, e⟩ = inB p (-1) 7 by rw [right_eq he, hk]; simp [inB]]
    have He := Lib.hid (inB_t he); have Hk := Lib.hid hk; clear he hk
    have Hw := He
    go_enter Tryz.func105, Tryz.ntmps105
    go_wp2_with (first
     | (go_at_call 103; refine (within_any _ _ _ _).mono ?_; rintro r w1 ⟨rfl, rfl⟩; (first | rw [He.out] | rw [Hw.out] | skip))
     | (go_at_call 141; refine (kind_any _ _).mono ?_; rintro r w1 ⟨rfl, rfl⟩; rw [Hk.out]))
    go_ret
    exact ⟨rfl, by go_grown⟩
   ·have hn' : (n == 0) = false := by simpa using hn
    rw [show rightB ⟨s, n, p, e⟩ = false by rw [right_eq he, hk]; simp [hn]]
    have He := Lib.hid (inB_t he); have Hk := Lib.hid hk; clear he hk
    have Hw := He
    clear hn
    go_enter Tryz.func105, Tryz.ntmps105
    go_wp2_with (first
     | (go_at_call 103; refine (within_any _ _ _ _).mono ?_; rintro r w1 ⟨rfl, rfl⟩; (first | rw [He.out] | rw [Hw.out] | skip))
     | (go_at_call 141; refine (kind_any _ _).mono ?_; rintro r w1 ⟨rfl, rfl⟩; rw [Hk.out]))
    go_ret
    exact ⟨rfl, by go_grown⟩
  ·skip
   rw [show rightB ⟨s, n, p, e⟩ = false by rw [right_eq he, hk]; simp]
   have He := Lib.hid (inB_t he); have Hk := Lib.hid hk; clear he hk
   have Hw := He
   go_enter Tryz.func105, Tryz.ntmps105
   go_wp2_with (first
    | (go_at_call 103; refine (within_any _ _ _ _).mono ?_; rintro r w1 ⟨rfl, rfl⟩; (first | rw [He.out] | rw [Hw.out] | skip))
    | (go_at_call 141; refine (kind_any _ _).mono ?_; rintro r w1 ⟨rfl, rfl⟩; rw [Hk.out]))
   go_ret
   exact ⟨rfl, by go_grown⟩
 ·rw [rightB_f (fun h => he ⟨h.1, h.2.1⟩)]
  go_enter Tryz.func105, Tryz.ntmps105
  go_wp2_with (go_at_call 103; refine (within_any _ _ _ _).mono ?_; rintro r w1 ⟨rfl, rfl⟩; rw [inB_f he])
  go_ret
  exact ⟨rfl, by go_grown⟩

end Go.Proofs.YtbijaloeilnjoaaGreat

namespace Go.Proofs.YtbijaloeilnjoaaGreat
open Go.RowKit

theorem ret_wrap {a b c : Int} (h : a = b) (h2 : b = c) (h0 : 0 ≤ c) (h1 : c < 9223372036854775807) : Ending.returned (.int .i64 (wrap64 a)) = .returned (.int .i64 c) := by
 rw [h, h2, IntWalk.wrap64_in c ⟨by omega, by omega⟩]

set_option maxRecDepth 100000 in
set_option maxHeartbeats 400000 in
theorem part0_any (x : Int) (w : World) (h0 : 0 ≤ x) (h1 : x ≤ 18446744073709551615) :
  Calls Tryz.prog 104 #[.int .u64 x, .int .i64 0, .int .i64 2] w fun e w' => e = .returned (.int .i64 (x % 4)) ∧ Below w.heap.size w w' := by
 go_enter Tryz.func104, Tryz.ntmps104
 go_wp2
 go_quiet (fail)
 go_wp2
 go_ret
 exact ⟨ret_wrap (umask2 x h0 (by omega)) rfl (by omega) (by omega), below_drewN (Below.refl _ _) _⟩

set_option maxRecDepth 100000 in
set_option maxHeartbeats 400000 in
theorem part2_any (x : Int) (w : World) (h0 : 0 ≤ x) (h1 : x ≤ 18446744073709551615) :
  Calls Tryz.prog 104 #[.int .u64 x, .int .i64 2, .int .i64 8] w fun e w' => e = .returned (.int .i64 (x / 4 % 256)) ∧ Below w.heap.size w w' := by
 go_enter Tryz.func104, Tryz.ntmps104
 go_wp2
 go_quiet (fail)
 go_wp2
 go_ret
 exact ⟨ret_wrap (umask8 (x / 4) (by omega) (by omega)) rfl (by omega) (by omega), below_drewN (Below.refl _ _) _⟩

set_option maxRecDepth 100000 in
set_option maxHeartbeats 400000 in
theorem part10_any (x : Int) (w : World) (h0 : 0 ≤ x) (h1 : x ≤ 18446744073709551615) :
  Calls Tryz.prog 104 #[.int .u64 x, .int .i64 10, .int .i64 8] w fun e w' => e = .returned (.int .i64 (x / 1024 % 256)) ∧ Below w.heap.size w w' := by
 go_enter Tryz.func104, Tryz.ntmps104
 go_wp2
 go_quiet (fail)
 go_wp2
 go_ret
 exact ⟨ret_wrap (umask8 (x / 1024) (by omega) (by omega)) rfl (by omega) (by omega), below_drewN (Below.refl _ _) _⟩

set_option maxRecDepth 100000 in
set_option maxHeartbeats 400000 in
theorem part18_any (x : Int) (w : World) (h0 : 0 ≤ x) (h1 : x ≤ 18446744073709551615) :
  Calls Tryz.prog 104 #[.int .u64 x, .int .i64 18, .int .i64 24] w fun e w' => e = .returned (.int .i64 (x / 262144 % 16777216)) ∧ Below w.heap.size w w' := by
 go_enter Tryz.func104, Tryz.ntmps104
 go_wp2
 go_quiet (fail)
 go_wp2
 go_ret
 exact ⟨ret_wrap (umask24 (x / 262144) (by omega) (by omega)) rfl (by omega) (by omega), below_drewN (Below.refl _ _) _⟩

set_option maxRecDepth 100000 in
set_option maxHeartbeats 400000 in
theorem pack_any (s n p e : Int) (w : World) :
  Calls Tryz.prog 106 #[.agg #[.int .i64 s, .int .i64 n, .int .i64 p, .int .i64 e]] w fun r w' => r = .returned (.tuple #[.int .u64 (pack ⟨s, n, p, e⟩).1, .int .i64 (pack ⟨s, n, p, e⟩).2]) ∧ Below w.heap.size w w' := by
 have R := row_new w #[.int .i64 s, .int .i64 n, .int .i64 p, .int .i64 e] 61
 have HR := Lib.hid R
 clear R
 by_cases hr : Right ⟨s, n, p, e⟩
 ·obtain ⟨h00, h01, h10, h11, h20, h21, h30, h31⟩ := right_bd hr
  have e1 : bits .or .u64 (bits .or .u64 (bits .or .u64 s (n * 4)) ((p + 1) * 1024)) (e * 262144) = word ⟨s, n, p, e⟩ := by
   simp only at h00 h01 h10 h11 h20 h21 h30 h31
   rw [u64_join 2 s (n * 4) h00 (by omega) (by omega) (by omega) (by omega) (by omega), u64_join 10 _ ((p + 1) * 1024) (by omega) (by omega) (by omega) (by omega) (by omega) (by omega),
    u64_join 18 _ (e * 262144) (by omega) (by omega) (by omega) (by omega) (by omega) (by omega)]
   simp only [word]
   omega
  have He := Lib.hid e1
  rw [show pack ⟨s, n, p, e⟩ = (word ⟨s, n, p, e⟩, 0) by simp [pack, hr]]
  have Hr := Lib.hid (rightB_t hr)
  clear hr e1
  simp only at h00 h01 h10 h11 h20 h21 h30 h31
  go_enter Tryz.func106, Tryz.ntmps106
  go_wp2_with (go_at_call 105; refine (right_any _ _ _ _ _).mono ?_; rintro r w1 ⟨rfl, hb⟩; rw [Hr.out]; have R := row_below HR.out hb; obtain ⟨q0, q1, q2, q3, _, _, _, _⟩ := box4 R; clear R)
  go_returns
  exact ⟨by rw [← He.out]; rfl, below_only (by go_grown) hb⟩
 ·rw [show pack ⟨s, n, p, e⟩ = (0, 1) by simp [pack, hr]]
  have Hr := Lib.hid (rightB_f hr)
  clear hr
  go_enter Tryz.func106, Tryz.ntmps106
  go_wp2_with (go_at_call 105; refine (right_any _ _ _ _ _).mono ?_; rintro r w1 ⟨rfl, hb⟩; rw [Hr.out]; have R := row_below HR.out hb; obtain ⟨q0, q1, q2, q3, _, _, _, _⟩ := box4 R; clear R)
  go_returns
  exact ⟨rfl, below_only (by go_grown) hb⟩

end Go.Proofs.YtbijaloeilnjoaaGreat

namespace Go.Proofs.YtbijaloeilnjoaaGreat
open Go.RowKit


end Go.Proofs.YtbijaloeilnjoaaGreat

namespace Go.Proofs.YtbijaloeilnjoaaGreat
open Go.RowKit

set_option maxRecDepth 100000 in
set_option maxHeartbeats 1000000 in
theorem unpack_any (x : Int) (w : World) (h0 : 0 ≤ x) (h1 : x ≤ 18446744073709551615) :
  Calls Tryz.prog 57 #[.int .u64 x] w fun r w' => r = .returned (.tuple #[(unpack x).1.val, .int .i64 (unpack x).2]) ∧ Below w.heap.size w w' := by
 have HR := Lib.hid (show (w.alloc (.cells #[.int .i64 0, .int .i64 0, .int .i64 0, .int .i64 0] 61)).heap[w.heap.size]? = some (.cells #[.int .i64 0, .int .i64 0, .int .i64 0, .int .i64 0] 61) from row_new w _ _)
 have B0 : Below w.heap.size w (w.alloc (.cells #[.int .i64 0, .int .i64 0, .int .i64 0, .int .i64 0] 61)) := by go_grown
 have HT := Lib.hid (show told x = ⟨x % 4, x / 4 % 256, x / 1024 % 256 - 1, x / 262144 % 16777216⟩ from rfl)
 have a0 : 0 ≤ x % 4 := by omega
 have a1 : x % 4 < 4 := by omega
 have b0 : 0 ≤ x / 4 % 256 := by omega
 have b1 : x / 4 % 256 < 256 := by omega
 have c0 : 0 ≤ x / 1024 % 256 := by omega
 have c1 : x / 1024 % 256 < 256 := by omega
 have d0 : 0 ≤ x / 262144 % 16777216 := by omega
 have d1 : x / 262144 % 16777216 < 16777216 := by omega
 have hz : (x / 4398046511104 != 0) = !decide (x < 4398046511104) := by
  rw [Bool.eq_iff_iff]; simp; omega
 have P : ∀ (R : Ctl → Int → Prop), True := fun _ => trivial
 clear P
 obtain ⟨s, Hs⟩ : ∃ s, Hid (s = x % 4) := ⟨_, rfl⟩
 obtain ⟨n, Hn⟩ : ∃ s, Hid (s = x / 4 % 256) := ⟨_, rfl⟩
 obtain ⟨p, Hp⟩ : ∃ s, Hid (s = x / 1024 % 256) := ⟨_, rfl⟩
 obtain ⟨e, He⟩ : ∃ s, Hid (s = x / 262144 % 16777216) := ⟨_, rfl⟩
 rw [← Hs.out] at a0 a1
 rw [← Hn.out] at b0 b1
 rw [← Hp.out] at c0 c1
 rw [← He.out] at d0 d1
 have HU := Lib.hid (show unpack x = if Right ⟨s, n, p - 1, e⟩ ∧ x < 4398046511104 then (⟨s, n, p - 1, e⟩, 0) else (noCtl, 1) by rw [unpack, HT.out, ← Hs.out, ← Hn.out, ← Hp.out, ← He.out])
 clear HT
 have HZ := Lib.hid hz
 clear hz
 by_cases hr : Right ⟨s, n, p - 1, e⟩
 ·by_cases hx : x < 4398046511104
  ·rw [HU.out, if_pos ⟨hr, hx⟩]
   have Hr := Lib.hid (rightB_t hr)
   have hq : (x / 4398046511104 != 0) = false := by rw [HZ.out]; simp [hx]
   clear hr hx HU
   go_enter Tryz.func57, Tryz.ntmps57
   go_wp2_with fail
   refine (part0_any x _ h0 h1).mono ?_
   rintro r w1 ⟨rfl, hb⟩
   rw [← Hs.out]
   have B1 := below_only B0 hb
   have R := row_below HR.out hb
   have HR1 := Lib.hid R
   clear R hb
   go_wp2_with fail
   refine (part2_any x _ h0 h1).mono ?_
   rintro r w2 ⟨rfl, hb⟩
   rw [← Hn.out]
   have B2 := below_only B1 hb
   have R := row_below HR1.out hb
   have HR2 := Lib.hid R
   clear R hb B1
   go_wp2_with fail
   refine (part10_any x _ h0 h1).mono ?_
   rintro r w3 ⟨rfl, hb⟩
   rw [← Hp.out]
   have B3 := below_only B2 hb
   have R := row_below HR2.out hb
   have HR3 := Lib.hid R
   clear R hb B2
   go_wp2_with fail
   refine (part18_any x _ h0 h1).mono ?_
   rintro r w4 ⟨rfl, hb⟩
   rw [← He.out]
   have B4 := below_only B3 hb
   have R := row_below HR3.out hb
   have HR4 := Lib.hid R
   clear hb B3
   obtain ⟨r0, r1, r2, r3, f0, f1, f2, f3⟩ := box4 R
   clear R
   go_wp2_with fail
   refine (right_any _ _ _ _ _).mono ?_
   rintro r w5 ⟨rfl, hb⟩
   rw [Hr.out]
   have B5 := below_only (B4.alloc B4.size _) hb
   have R := row_below (row_alloc HR4.out) hb
   have R2 := row_below (row_new w4 #[.int .i64 s, .int .i64 n, .int .i64 (p - 1), .int .i64 e] 61) hb
   have g4 := lt_of_heap HR4.out
   clear hb r0 r1 r2 r3 f0 f1 f2 f3
   obtain ⟨r0, r1, r2, r3, f0, f1, f2, f3⟩ := box4 R
   obtain ⟨q0, q1, q2, q3, _, _, _, _⟩ := box4 R2
   clear R R2
   go_wp2
   refine bodyPost_ret (by simp [results, Tryz.results57, go_sem, r0, r1, r2, r3]; rfl) rfl ?_
   exact ⟨rfl, by go_grown⟩
  ·rw [HU.out, if_neg (fun h => hx h.2)]
   have Hr := Lib.hid (rightB_t hr)
   have hq : (x / 4398046511104 != 0) = true := by rw [HZ.out]; simp [hx]
   clear hr hx HU
   go_enter Tryz.func57, Tryz.ntmps57
   go_wp2_with fail
   refine (part0_any x _ h0 h1).mono ?_
   rintro r w1 ⟨rfl, hb⟩
   rw [← Hs.out]
   have B1 := below_only B0 hb
   have R := row_below HR.out hb
   have HR1 := Lib.hid R
   clear R hb
   go_wp2_with fail
   refine (part2_any x _ h0 h1).mono ?_
   rintro r w2 ⟨rfl, hb⟩
   rw [← Hn.out]
   have B2 := below_only B1 hb
   have R := row_below HR1.out hb
   have HR2 := Lib.hid R
   clear R hb B1
   go_wp2_with fail
   refine (part10_any x _ h0 h1).mono ?_
   rintro r w3 ⟨rfl, hb⟩
   rw [← Hp.out]
   have B3 := below_only B2 hb
   have R := row_below HR2.out hb
   have HR3 := Lib.hid R
   clear R hb B2
   go_wp2_with fail
   refine (part18_any x _ h0 h1).mono ?_
   rintro r w4 ⟨rfl, hb⟩
   rw [← He.out]
   have B4 := below_only B3 hb
   have R := row_below HR3.out hb
   have HR4 := Lib.hid R
   clear hb B3
   obtain ⟨r0, r1, r2, r3, f0, f1, f2, f3⟩ := box4 R
   clear R
   go_wp2_with fail
   refine (right_any _ _ _ _ _).mono ?_
   rintro r w5 ⟨rfl, hb⟩
   rw [Hr.out]
   have B5 := below_only (B4.alloc B4.size _) hb
   have R := row_below (row_alloc HR4.out) hb
   have R2 := row_below (row_new w4 #[.int .i64 s, .int .i64 n, .int .i64 (p - 1), .int .i64 e] 61) hb
   have g4 := lt_of_heap HR4.out
   clear hb r0 r1 r2 r3 f0 f1 f2 f3
   obtain ⟨r0, r1, r2, r3, f0, f1, f2, f3⟩ := box4 R
   obtain ⟨q0, q1, q2, q3, _, _, _, _⟩ := box4 R2
   clear R R2
   go_wp2
   refine bodyPost_ret (by simp [results, Tryz.results57, go_sem, r0, r1, r2, r3]; rfl) rfl ?_
   exact ⟨rfl, by go_grown⟩
 ·rw [HU.out, if_neg (fun h => hr h.1)]
  have Hr := Lib.hid (rightB_f hr)
  clear hr HU
  go_enter Tryz.func57, Tryz.ntmps57
  go_wp2_with fail
  refine (part0_any x _ h0 h1).mono ?_
  rintro r w1 ⟨rfl, hb⟩
  rw [← Hs.out]
  have B1 := below_only B0 hb
  have R := row_below HR.out hb
  have HR1 := Lib.hid R
  clear R hb
  go_wp2_with fail
  refine (part2_any x _ h0 h1).mono ?_
  rintro r w2 ⟨rfl, hb⟩
  rw [← Hn.out]
  have B2 := below_only B1 hb
  have R := row_below HR1.out hb
  have HR2 := Lib.hid R
  clear R hb B1
  go_wp2_with fail
  refine (part10_any x _ h0 h1).mono ?_
  rintro r w3 ⟨rfl, hb⟩
  rw [← Hp.out]
  have B3 := below_only B2 hb
  have R := row_below HR2.out hb
  have HR3 := Lib.hid R
  clear R hb B2
  go_wp2_with fail
  refine (part18_any x _ h0 h1).mono ?_
  rintro r w4 ⟨rfl, hb⟩
  rw [← He.out]
  have B4 := below_only B3 hb
  have R := row_below HR3.out hb
  have HR4 := Lib.hid R
  clear hb B3
  obtain ⟨r0, r1, r2, r3, f0, f1, f2, f3⟩ := box4 R
  clear R
  go_wp2_with fail
  refine (right_any _ _ _ _ _).mono ?_
  rintro r w5 ⟨rfl, hb⟩
  rw [Hr.out]
  have B5 := below_only (B4.alloc B4.size _) hb
  have R := row_below (row_alloc HR4.out) hb
  have R2 := row_below (row_new w4 #[.int .i64 s, .int .i64 n, .int .i64 (p - 1), .int .i64 e] 61) hb
  have g4 := lt_of_heap HR4.out
  clear hb r0 r1 r2 r3 f0 f1 f2 f3
  obtain ⟨r0, r1, r2, r3, f0, f1, f2, f3⟩ := box4 R
  obtain ⟨q0, q1, q2, q3, _, _, _, _⟩ := box4 R2
  clear R R2
  go_wp2
  refine bodyPost_ret (by simp [results, Tryz.results57, go_sem, r0, r1, r2, r3]; rfl) rfl ?_
  exact ⟨rfl, by go_grown⟩

end Go.Proofs.YtbijaloeilnjoaaGreat
