/- The walks of ref.Pack, ref.Unpack and of the document's Pack, Unpack, of handles. -/
import Derived.Test.YtnimaajnlkbdaaaGreatBeginPlain
import Derived.Test.YtnimaajnlkbdaaaGreatNum
import Derived.Test.YtnimaajnlkbdaaaGreatMA
namespace Go.Proofs.YtnimaajnlkbdaaaGreat
open Go.RowKit

@[go_sem] theorem eqgRef : Tryz.prog.eqGuardType Tryz.prog.depth 70 = false := by kernel_rfl
theorem stoodRef : Tryz.prog.stoodInHeld 70 = false := by kernel_rfl
theorem undRef : Tryz.prog.underlying 70 = some (.struct (Tryz.prog.fieldsOf 70)) := by kernel_rfl
theorem intEqlR (d : Nat) (s s' : Int) (w : World) : (Op.equalIn (d + 1) 3 (.int .i64 s) (.int .i64 s')).run Tryz.prog w = .ok (s == s') w := by
 simp [Op.equalIn, go_sem]
@[go_sem high] theorem eqlRef (w : World) (s e a s' e' a' : Int) : (binOp .eql 70 (.agg #[.int .i64 s, .int .i64 e, .int .i64 a]) (.agg #[.int .i64 s', .int .i64 e', .int .i64 a'])).run Tryz.prog w = .ok (.bool (s == s' && (e == e' && a == a'))) w := by
 rw [run_eql_struct, run_equalIn_agg _ _ _ _ _ undRef stoodRef]
 simp [Op.eqFields, go_sem, intEqlR]
 by_cases h : s = s' <;> by_cases h' : e = e' <;> by_cases h2 : a = a' <;> simp [h, h', h2]

theorem row_three {w : World} {g : Nat} {a b c : Value} {t : TypeId} (h : w.heap[g]? = some (.cells #[a, b, c] t (0, 0))) (a' b' c' : Value) :
  (((w.setCell ⟨g, 0, none⟩ a').setCell ⟨g, 1, none⟩ b').setCell ⟨g, 2, none⟩ c').heap[g]? = some (.cells #[a', b', c'] t (0, 0)) := by
 have := row_set (i := 2) (row_set (i := 1) (row_set (i := 0) h a') b') c'
 simpa using this

/-- what may be told by a handle -/
def refB (sc ep q : Int) : Bool := inB sc 0 7 && inB ep 0 16777215 && inB q 1 8191
theorem refB_ok {h : Int} (h0 : 0 ≤ h) : refB (h / 16777216 % 256) (h / 4294967296) (h % 16777216) = decide (refOk h) := by
 rw [Bool.eq_iff_iff, decide_eq_true_eq]
 unfold refOk refB inB
 simp only [Bool.and_eq_true, decide_eq_true_eq]
 constructor
 ·rintro ⟨⟨⟨_, h1⟩, ⟨_, h2⟩⟩, ⟨h3, h4⟩⟩
  exact ⟨by omega, h2, h3, h4⟩
 ·rintro ⟨h1, h2, h3, h4⟩
  exact ⟨⟨⟨by omega, by omega⟩, ⟨by omega, h2⟩⟩, ⟨h3, h4⟩⟩

set_option maxRecDepth 100000 in
set_option maxHeartbeats 1000000 in
theorem refpack_any (sc ep q a : Int) (w : World) (s0 : 0 ≤ sc) (s1 : sc ≤ 255) (p0 : 0 ≤ ep) (p1 : ep ≤ 4294967295) (q0 : 0 ≤ q) (q1 : q < 16777216) (ha : a = 8 * q) :
  Calls Tryz.prog 109 #[.agg #[.int .i64 sc, .int .i64 ep, .int .i64 a]] w fun r w' => r = .returned (.tuple #[.int .u64 (if refB sc ep q then q + 16777216 * sc + 4294967296 * ep else 0), .int .i64 (if refB sc ep q then 0 else 1)]) ∧ Below w.heap.size w w' := by
 have m1 : a.tmod 8 = 0 := by rw [ha]; exact Int.mul_tmod_right 8 q
 have m2 : a.tdiv 8 = q := by rw [ha]; exact Int.mul_tdiv_cancel_left q (by decide)
 have m3 : a % 8 = 0 := by omega
 have m4 : a / 8 = q := by omega
 have a0 : 0 ≤ a := by omega
 have a1 : a ≤ 134217728 := by omega
 have HA := Lib.hid ha
 clear ha
 by_cases hs : sc ≤ 7
 ·by_cases hp : ep ≤ 16777215
  ·by_cases hq : 1 ≤ q ∧ q ≤ 8191
   ·rw [show refB sc ep q = true by simp [refB, inB]; omega]
    simp only [if_true]
    have e1 : inB sc 0 7 = true := inB_t (by omega)
    have e2 : inB ep 0 16777215 = true := inB_t (by omega)
    have e3 : inB a 8 65528 = true := inB_t (by have := HA.out; omega)
    have HE := Lib.hid (show bits .or .u64 (bits .or .u64 q (sc * 16777216)) (ep * 4294967296) = q + 16777216 * sc + 4294967296 * ep by
     rw [u64_join 24 q (sc * 16777216) q0 (by omega) (by omega) (by omega) (by omega) (by omega), u64_join 32 _ (ep * 4294967296) (by omega) (by omega) (by omega) (by omega) (by omega) (by omega)]
     omega)
    go_enter Tryz.func109, Tryz.ntmps109
    go_wp2_with (go_at_call 32; refine (within_any _ _ _ _).mono ?_; rintro r w1 ⟨rfl, rfl⟩; first | rw [e1] | rw [e2] | rw [e3])
    go_returns
    exact ⟨by rw [← HE.out]; rfl, by go_grown⟩
   ·rw [show refB sc ep q = false by simp [refB, inB]; omega]
    simp only [Bool.false_eq_true, if_false]
    have e1 : inB sc 0 7 = true := inB_t (by omega)
    have e2 : inB ep 0 16777215 = true := inB_t (by omega)
    have e3 : inB a 8 65528 = false := inB_f (by have := HA.out; omega)
    go_enter Tryz.func109, Tryz.ntmps109
    go_wp2_with (go_at_call 32; refine (within_any _ _ _ _).mono ?_; rintro r w1 ⟨rfl, rfl⟩; first | rw [e1] | rw [e2] | rw [e3])
    go_returns
    exact ⟨rfl, by go_grown⟩
  ·rw [show refB sc ep q = false by simp [refB, inB]; omega]
   simp only [Bool.false_eq_true, if_false]
   have e1 : inB sc 0 7 = true := inB_t (by omega)
   have e2 : inB ep 0 16777215 = false := inB_f (by omega)
   have e3 := e1
   go_enter Tryz.func109, Tryz.ntmps109
   go_wp2_with (go_at_call 32; refine (within_any _ _ _ _).mono ?_; rintro r w1 ⟨rfl, rfl⟩; first | rw [e1] | rw [e2] | rw [e3])
   go_returns
   exact ⟨rfl, by go_grown⟩
 ·rw [show refB sc ep q = false by simp [refB, inB]; omega]
  simp only [Bool.false_eq_true, if_false]
  have e1 : inB sc 0 7 = false := inB_f (by omega)
  have e2 := e1
  have e3 := e1
  go_enter Tryz.func109, Tryz.ntmps109
  go_wp2_with (go_at_call 32; refine (within_any _ _ _ _).mono ?_; rintro r w1 ⟨rfl, rfl⟩; first | rw [e1] | rw [e2] | rw [e3])
  go_returns
  exact ⟨rfl, by go_grown⟩

set_option maxRecDepth 100000 in
set_option maxHeartbeats 1000000 in
theorem rrefpack_any (sc ep q a : Int) (w : World) (s0 : 0 ≤ sc) (s1 : sc ≤ 255) (p0 : 0 ≤ ep) (p1 : ep ≤ 4294967295) (q0 : 0 ≤ q) (q1 : q < 16777216) (ha : a = 8 * q) :
  Calls Tryz.prog 50 #[.agg #[.int .i64 sc, .int .i64 ep, .int .i64 a]] w fun r w' => r = .returned (.tuple #[.int .u64 (if refB sc ep q then q + 16777216 * sc + 4294967296 * ep else 0), .int .i64 (if refB sc ep q then 0 else 1)]) ∧ Below w.heap.size w w' := by
 have m1 : a.tmod 8 = 0 := by rw [ha]; exact Int.mul_tmod_right 8 q
 have m2 : a.tdiv 8 = q := by rw [ha]; exact Int.mul_tdiv_cancel_left q (by decide)
 have m3 : a % 8 = 0 := by omega
 have m4 : a / 8 = q := by omega
 have a0 : 0 ≤ a := by omega
 have a1 : a ≤ 134217728 := by omega
 have HA := Lib.hid ha
 clear ha
 by_cases hs : sc ≤ 7
 ·by_cases hp : ep ≤ 16777215
  ·by_cases hq : 1 ≤ q ∧ q ≤ 8191
   ·rw [show refB sc ep q = true by simp [refB, inB]; omega]
    simp only [if_true]
    have d1 : decide (sc < 0) = false := decide_eq_false (by omega)
    have d2 : decide (ep < 0) = false := decide_eq_false (by omega)
    have d3 : decide (sc ≥ 8) = false := decide_eq_false (by have := HA.out; omega)
    have d4 : decide (8 ≤ sc) = false := decide_eq_false (by have := HA.out; omega)
    have d5 : decide (ep > 16777215) = false := decide_eq_false (by have := HA.out; omega)
    have d6 : decide (16777215 < ep) = false := decide_eq_false (by have := HA.out; omega)
    have d7 : decide (a < 8) = false := decide_eq_false (by have := HA.out; omega)
    have d8 : decide (a > 65528) = false := decide_eq_false (by have := HA.out; omega)
    have d9 : decide (65528 < a) = false := decide_eq_false (by have := HA.out; omega)
    go_enter Tryz.func50, Tryz.ntmps50
    go_wp2
    go_returns
    exact ⟨rfl, by go_grown⟩
   ·rw [show refB sc ep q = false by simp [refB, inB]; omega]
    simp only [Bool.false_eq_true, if_false]
    have d1 : decide (sc < 0) = false := decide_eq_false (by omega)
    have d2 : decide (ep < 0) = false := decide_eq_false (by omega)
    have d3 : decide (sc ≥ 8) = false := decide_eq_false (by have := HA.out; omega)
    have d4 : decide (8 ≤ sc) = false := decide_eq_false (by have := HA.out; omega)
    have d5 : decide (ep > 16777215) = false := decide_eq_false (by have := HA.out; omega)
    have d6 : decide (16777215 < ep) = false := decide_eq_false (by have := HA.out; omega)
    by_cases hq0 : a < 8
    ·have d7 : decide (a < 8) = true := decide_eq_true (by have := HA.out; omega)
     go_enter Tryz.func50, Tryz.ntmps50
     go_wp2
     go_returns
     exact ⟨rfl, by go_grown⟩
    ·have d7 : decide (a < 8) = false := decide_eq_false (by have := HA.out; omega)
     have d8 : decide (a > 65528) = true := decide_eq_true (by have := HA.out; omega)
     have d9 : decide (65528 < a) = true := decide_eq_true (by have := HA.out; omega)
     go_enter Tryz.func50, Tryz.ntmps50
     go_wp2
     go_returns
     exact ⟨rfl, by go_grown⟩
  ·rw [show refB sc ep q = false by simp [refB, inB]; omega]
   simp only [Bool.false_eq_true, if_false]
   have d1 : decide (sc < 0) = false := decide_eq_false (by omega)
   have d2 : decide (ep < 0) = false := decide_eq_false (by omega)
   have d3 : decide (sc ≥ 8) = false := decide_eq_false (by have := HA.out; omega)
   have d4 : decide (8 ≤ sc) = false := decide_eq_false (by have := HA.out; omega)
   have d5 : decide (ep > 16777215) = true := decide_eq_true (by have := HA.out; omega)
   have d6 : decide (16777215 < ep) = true := decide_eq_true (by have := HA.out; omega)
   go_enter Tryz.func50, Tryz.ntmps50
   go_wp2
   go_returns
   exact ⟨rfl, by go_grown⟩
 ·rw [show refB sc ep q = false by simp [refB, inB]; omega]
  simp only [Bool.false_eq_true, if_false]
  have d1 : decide (sc < 0) = false := decide_eq_false (by omega)
  have d2 : decide (ep < 0) = false := decide_eq_false (by omega)
  have d3 : decide (sc ≥ 8) = true := decide_eq_true (by have := HA.out; omega)
  have d4 : decide (8 ≤ sc) = true := decide_eq_true (by have := HA.out; omega)
  go_enter Tryz.func50, Tryz.ntmps50
  go_wp2
  go_returns
  exact ⟨rfl, by go_grown⟩

set_option maxRecDepth 100000 in
set_option maxHeartbeats 1000000 in
theorem unpackR_any (h : Int) (w : World) (h0 : 0 ≤ h) (h1 : h ≤ 18446744073709551615) :
  Calls Tryz.prog 80 #[.int .u64 h] w fun r w' => r = .returned (.tuple #[.agg #[.int .i64 (unpackR h).1.1, .int .i64 (unpackR h).1.2.1, .int .i64 (unpackR h).1.2.2], .int .i64 (unpackR h).2]) ∧ Below w.heap.size w w' := by
 have hb := refB_ok h0
 have m1 : bits .and .u64 h 16777215 = h % 16777216 := umask24 h h0 (by omega)
 have m2 : bits .and .u64 (h / 16777216) 255 = h / 16777216 % 256 := umask8 (h / 16777216) (by omega) (by omega)
 obtain ⟨q, Hq⟩ : ∃ q, Hid (h % 16777216 = q) := ⟨_, Lib.hid rfl⟩
 obtain ⟨sc, Hs⟩ : ∃ sc, Hid (h / 16777216 % 256 = sc) := ⟨_, Lib.hid rfl⟩
 obtain ⟨ep, Hp⟩ : ∃ ep, Hid (h / 4294967296 = ep) := ⟨_, Lib.hid rfl⟩
 have q0 : 0 ≤ q := by rw [← Hq.out]; omega
 have q1 : q < 16777216 := by rw [← Hq.out]; omega
 have s0 : 0 ≤ sc := by rw [← Hs.out]; omega
 have s1 : sc ≤ 255 := by rw [← Hs.out]; omega
 have p0 : 0 ≤ ep := by rw [← Hp.out]; omega
 have p1 : ep ≤ 4294967295 := by rw [← Hp.out]; omega
 have HS := Lib.hid (show q + 16777216 * sc + 4294967296 * ep = h by rw [← Hq.out, ← Hs.out, ← Hp.out]; omega)
 rw [Hs.out, Hp.out, Hq.out] at hb
 rw [Hs.out] at m2
 rw [Hq.out] at m1
 have m3 := Hp.out
 have HP := Lib.hid (fun W => refpack_any sc ep q (q * 8) W s0 s1 p0 p1 q0 q1 (by omega))
 have R2 := Lib.hid (show (((w.alloc (.cells #[.int .i64 0, .int .i64 0, .int .i64 0] 70)).alloc (.cells #[.int .i64 0, .int .i64 0, .int .i64 0] 70)).alloc (.cells #[.int .i64 sc, .int .i64 ep, .int .i64 (q * 8)] 70)).heap[w.heap.size]? = some (.cells #[.int .i64 0, .int .i64 0, .int .i64 0] 70 (0, 0)) from row_alloc (row_alloc (row_new w _ _)))
 have R4 := Lib.hid (show (((w.alloc (.cells #[.int .i64 0, .int .i64 0, .int .i64 0] 70)).alloc (.cells #[.int .i64 0, .int .i64 0, .int .i64 0] 70)).alloc (.cells #[.int .i64 sc, .int .i64 ep, .int .i64 (q * 8)] 70)).heap[w.heap.size + 1]? = some (.cells #[.int .i64 0, .int .i64 0, .int .i64 0] 70 (0, 0)) from row_alloc (heap_at (by simp)))
 have R5 := Lib.hid (show (((w.alloc (.cells #[.int .i64 0, .int .i64 0, .int .i64 0] 70)).alloc (.cells #[.int .i64 0, .int .i64 0, .int .i64 0] 70)).alloc (.cells #[.int .i64 sc, .int .i64 ep, .int .i64 (q * 8)] 70)).heap[w.heap.size + 1 + 1]? = some (.cells #[.int .i64 sc, .int .i64 ep, .int .i64 (q * 8)] 70 (0, 0)) from heap_at (by simp))
 have B0 := Lib.hid (show Below w.heap.size w (((w.alloc (.cells #[.int .i64 0, .int .i64 0, .int .i64 0] 70)).alloc (.cells #[.int .i64 0, .int .i64 0, .int .i64 0] 70)).alloc (.cells #[.int .i64 sc, .int .i64 ep, .int .i64 (q * 8)] 70)) by go_grown)
 by_cases hr : refOk h
 ·have HU := Lib.hid (show unpackR h = ((sc, ep, q * 8), 0) by rw [unpackR, if_pos hr, rfOf, Hs.out, Hp.out, Hq.out, show 8 * q = q * 8 by omega])
  have hB : refB sc ep q = true := by rw [hb]; exact decide_eq_true hr
  have qa : 1 ≤ q := by simp [refB, inB] at hB; omega
  have HB := Lib.hid hB
  rw [HU.out]
  have hlt : h < 1152921504606846976 := by have := hr.2.1; have := Hs.out; have := hr.1; simp [refB, inB] at hB; have := HS.out; omega
  clear hb hr hB
  have hz : (q * 8 == 0) = false := by simp; omega
  go_enter Tryz.func80, Tryz.ntmps80
  go_wp2_with fail
  refine (HP.out _).mono ?_
  rintro r w1 ⟨rfl, hb⟩
  rw [HB.out]
  simp only [if_true]
  rw [HS.out]
  have R2' := Lib.hid (row_below R2.out hb)
  have B1 := Lib.hid (below_only B0.out hb)
  have zz := hb.size
  obtain ⟨a0, a1, a2, f0, f1, f2⟩ := box3 R2'.out
  obtain ⟨b0, b1, b2, _, _, _⟩ := box3 (row_below R4.out hb)
  obtain ⟨c0, c1, c2, _, _, _⟩ := box3 (row_below R5.out hb)
  clear hb
  go_wp2_with fail
  obtain ⟨d0, d1, d2, _, _, _⟩ := box3 (row_three R2'.out (.int .i64 sc) (.int .i64 ep) (.int .i64 (q * 8)))
  have B1' := B1.out
  refine bodyPost_ret (by simp [results, Tryz.results80, go_sem, d0, d1, d2]; rfl) rfl ?_
  exact ⟨rfl, by go_grown⟩
 ·have HU := Lib.hid (show unpackR h = ((0, 0, 0), 18) by rw [unpackR, if_neg hr])
  have HB := Lib.hid (show refB sc ep q = false by rw [hb]; exact decide_eq_false hr)
  rw [HU.out]
  clear hb hr
  go_enter Tryz.func80, Tryz.ntmps80
  go_wp2_with fail
  refine (HP.out _).mono ?_
  rintro r w1 ⟨rfl, hb⟩
  rw [HB.out]
  simp only [Bool.false_eq_true, if_false]
  have R2' := Lib.hid (row_below R2.out hb)
  have B1 := Lib.hid (below_only B0.out hb)
  have zz := hb.size
  obtain ⟨a0, a1, a2, f0, f1, f2⟩ := box3 R2'.out
  obtain ⟨b0, b1, b2, _, _, _⟩ := box3 (row_below R4.out hb)
  clear hb
  go_wp2_with fail
  obtain ⟨d0, d1, d2, _, _, _⟩ := box3 (row_three R2'.out (.int .i64 0) (.int .i64 0) (.int .i64 0))
  have B1' := B1.out
  refine bodyPost_ret (by simp [results, Tryz.results80, go_sem, d0, d1, d2]; rfl) rfl ?_
  exact ⟨rfl, by go_grown⟩

set_option maxRecDepth 100000 in
set_option maxHeartbeats 1000000 in
theorem runpackR_any (h : Int) (w : World) (h0 : 0 ≤ h) (h1 : h ≤ 18446744073709551615) :
  Calls Tryz.prog 18 #[.int .u64 h] w fun r w' => r = .returned (.tuple #[.agg #[.int .i64 (unpackR h).1.1, .int .i64 (unpackR h).1.2.1, .int .i64 (unpackR h).1.2.2], .int .i64 (unpackR h).2]) ∧ Below w.heap.size w w' := by
 have hb := refB_ok h0
 have m1 : h % 16777216 = h % 16777216 := rfl
 have m2 : h / 16777216 % 256 = h / 16777216 % 256 := rfl
 obtain ⟨q, Hq⟩ : ∃ q, Hid (h % 16777216 = q) := ⟨_, Lib.hid rfl⟩
 obtain ⟨sc, Hs⟩ : ∃ sc, Hid (h / 16777216 % 256 = sc) := ⟨_, Lib.hid rfl⟩
 obtain ⟨ep, Hp⟩ : ∃ ep, Hid (h / 4294967296 = ep) := ⟨_, Lib.hid rfl⟩
 have q0 : 0 ≤ q := by rw [← Hq.out]; omega
 have q1 : q < 16777216 := by rw [← Hq.out]; omega
 have s0 : 0 ≤ sc := by rw [← Hs.out]; omega
 have s1 : sc ≤ 255 := by rw [← Hs.out]; omega
 have p0 : 0 ≤ ep := by rw [← Hp.out]; omega
 have p1 : ep ≤ 4294967295 := by rw [← Hp.out]; omega
 have HS := Lib.hid (show q + 16777216 * sc + 4294967296 * ep = h by rw [← Hq.out, ← Hs.out, ← Hp.out]; omega)
 rw [Hs.out, Hp.out, Hq.out] at hb
 clear m1 m2
 have m1 := Hq.out
 have m2 := Hs.out
 have m3 := Hp.out
 have HP := Lib.hid (fun W => rrefpack_any sc ep q (8 * q) W s0 s1 p0 p1 q0 q1 (by omega))
 have R2 := Lib.hid (show ((w.alloc (.cells #[.int .i64 0, .int .i64 0, .int .i64 0] 70)).alloc (.cells #[.int .i64 sc, .int .i64 ep, .int .i64 (8 * q)] 70)).heap[w.heap.size]? = some (.cells #[.int .i64 0, .int .i64 0, .int .i64 0] 70 (0, 0)) from row_alloc (row_new w _ _))
 have R5 := Lib.hid (show ((w.alloc (.cells #[.int .i64 0, .int .i64 0, .int .i64 0] 70)).alloc (.cells #[.int .i64 sc, .int .i64 ep, .int .i64 (8 * q)] 70)).heap[w.heap.size + 1]? = some (.cells #[.int .i64 sc, .int .i64 ep, .int .i64 (8 * q)] 70 (0, 0)) from heap_at (by simp))
 have B0 := Lib.hid (show Below w.heap.size w ((w.alloc (.cells #[.int .i64 0, .int .i64 0, .int .i64 0] 70)).alloc (.cells #[.int .i64 sc, .int .i64 ep, .int .i64 (8 * q)] 70)) by go_grown)
 by_cases hr : refOk h
 ·have HU := Lib.hid (show unpackR h = ((sc, ep, 8 * q), 0) by rw [unpackR, if_pos hr, rfOf, Hs.out, Hp.out, Hq.out, show 8 * q = 8 * q by omega])
  have hB : refB sc ep q = true := by rw [hb]; exact decide_eq_true hr
  have qa : 1 ≤ q := by simp [refB, inB] at hB; omega
  have HB := Lib.hid hB
  rw [HU.out]
  have hlt : h < 1152921504606846976 := by have := hr.2.1; have := Hs.out; have := hr.1; simp [refB, inB] at hB; have := HS.out; omega
  clear hb hr hB
  have hz : (8 * q == 0) = false := by simp; omega
  go_enter Tryz.func18, Tryz.ntmps18
  go_wp2_with fail
  refine (HP.out _).mono ?_
  rintro r w1 ⟨rfl, hb⟩
  rw [HB.out]
  simp only [if_true]
  rw [HS.out]
  have R2' := Lib.hid (row_below R2.out hb)
  have B1 := Lib.hid (below_only B0.out hb)
  have zz := hb.size
  obtain ⟨a0, a1, a2, f0, f1, f2⟩ := box3 R2'.out
  obtain ⟨c0, c1, c2, _, _, _⟩ := box3 (row_below R5.out hb)
  clear hb
  go_wp2_with fail
  obtain ⟨d0, d1, d2, _, _, _⟩ := box3 (row_three R2'.out (.int .i64 sc) (.int .i64 ep) (.int .i64 (8 * q)))
  have B1' := B1.out
  refine bodyPost_ret (by simp [results, Tryz.results18, go_sem, d0, d1, d2]; rfl) rfl ?_
  exact ⟨rfl, by go_grown⟩
 ·have HU := Lib.hid (show unpackR h = ((0, 0, 0), 18) by rw [unpackR, if_neg hr])
  have HB := Lib.hid (show refB sc ep q = false by rw [hb]; exact decide_eq_false hr)
  rw [HU.out]
  clear hb hr
  by_cases hlt : h < 1152921504606846976
  ·go_enter Tryz.func18, Tryz.ntmps18
   go_wp2_with fail
   refine (HP.out _).mono ?_
   rintro r w1 ⟨rfl, hb⟩
   rw [HB.out]
   simp only [Bool.false_eq_true, if_false]
   have R2' := Lib.hid (row_below R2.out hb)
   have B1 := Lib.hid (below_only B0.out hb)
   have zz := hb.size
   obtain ⟨a0, a1, a2, f0, f1, f2⟩ := box3 R2'.out
   clear hb
   go_wp2_with fail
   obtain ⟨d0, d1, d2, _, _, _⟩ := box3 (row_three R2'.out (.int .i64 0) (.int .i64 0) (.int .i64 0))
   have B1' := B1.out
   refine bodyPost_ret (by simp [results, Tryz.results18, go_sem, d0, d1, d2]; rfl) rfl ?_
   exact ⟨rfl, by go_grown⟩
  ·have hlt' : decide (h < 1152921504606846976) = false := decide_eq_false hlt
   have hge : decide (h ≥ 1152921504606846976) = true := decide_eq_true (by omega)
   have hge' : decide (1152921504606846976 ≤ h) = true := decide_eq_true (by omega)
   go_enter Tryz.func18, Tryz.ntmps18
   go_wp2
   refine bodyPost_ret (by simp [results, Tryz.results18, go_sem]; rfl) rfl ?_
   exact ⟨rfl, by go_grown⟩


end Go.Proofs.YtnimaajnlkbdaaaGreat
