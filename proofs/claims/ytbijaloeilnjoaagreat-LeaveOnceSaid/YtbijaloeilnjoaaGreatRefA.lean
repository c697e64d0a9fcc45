/- The walks of ref.Pack, ref.Unpack and of the document's Pack, Unpack, of handles. -/
import Derived.Test.YtbijaloeilnjoaaGreatBeginPlain
import Derived.Test.YtbijaloeilnjoaaGreatNum
import Derived.Test.YtbijaloeilnjoaaGreatMA
namespace Go.Proofs.YtbijaloeilnjoaaGreat
open Go.RowKit

@[go_sem] theorem eqgRef : Tryz.prog.eqGuardType Tryz.prog.depth 153 = false := by kernel_rfl
theorem stoodRef : Tryz.prog.stoodInHeld 153 = false := by kernel_rfl
theorem undRef : Tryz.prog.underlying 153 = some (.struct (Tryz.prog.fieldsOf 153)) := by kernel_rfl
theorem intEqlR (d : Nat) (s s' : Int) (w : World) : (Op.equalIn (d + 1) 3 (.int .i64 s) (.int .i64 s')).run Tryz.prog w = .ok (s == s') w := by
  simp [Op.equalIn, go_sem]
@[go_sem high] theorem eqlRef (w : World) (s e a s' e' a' : Int) : (binOp .eql 153 (.agg #[.int .i64 s, .int .i64 e, .int .i64 a]) (.agg #[.int .i64 s', .int .i64 e', .int .i64 a'])).run Tryz.prog w = .ok (.bool (s == s' && (e == e' && a == a'))) w := by
  rw [run_eql_struct, run_equalIn_agg _ _ _ _ _ undRef stoodRef]
  simp [Op.eqFields, go_sem, intEqlR]
  by_cases h : s = s' <;> by_cases h' : e = e' <;> by_cases h2 : a = a' <;> simp [h, h', h2]


/-- what may be told by a handle -/
def refB (sc ep q : Int) : Bool := inB sc 0 7 && inB ep 0 16777215 && inB q 1 8191

set_option maxRecDepth 100000 in
set_option maxHeartbeats 1000000 in
theorem rrefpack_any (sc ep q a : Int) (w : World) (s0 : 0 ≤ sc) (s1 : sc ≤ 255) (p0 : 0 ≤ ep) (p1 : ep ≤ 4294967295) (q0 : 0 ≤ q) (q1 : q < 16777216) (ha : a = 8 * q) :
    Calls Tryz.prog 84 #[.agg #[.int .i64 sc, .int .i64 ep, .int .i64 a]] w fun r w' => r = .returned (.tuple #[.int .u64 (if refB sc ep q then q + 16777216 * sc + 4294967296 * ep else 0), .int .i64 (if refB sc ep q then 0 else 1)]) ∧ Below w.heap.size w w' := by
  have m1 : a.tmod 8 = 0 := by rw [ha]; exact Int.mul_tmod_right 8 q
  have m2 : a.tdiv 8 = q := by rw [ha]; exact Int.mul_tdiv_cancel_left q (by decide)
  have m3 : a % 8 = 0 := by omega
  have m4 : a / 8 = q := by omega
  have a0 : 0 ≤ a := by omega
  have a1 : a ≤ 134217728 := by omega
  have HA := Lib.hid ha
  clear ha
  by_cases hs : sc ≤ 7
  · by_cases hp : ep ≤ 16777215
    · by_cases hq : 1 ≤ q ∧ q ≤ 8191
      · rw [show refB sc ep q = true by simp [refB, inB]; omega]
        simp only [if_true]
        have d1 : decide (sc < 0) = false := decide_eq_false (by omega)
        have d2 : decide (ep < 0) = false := decide_eq_false (by omega)
        have d3 : decide (sc ≥ 8) = false := decide_eq_false (by have := HA.out; omega)
        have d4 : decide (8 ≤ sc) = false := decide_eq_false (by have := HA.out; omega)
        have d5 : decide (ep > 16777215) = false := decide_eq_false (by have := HA.out; omega)
        have d6 : decide (16777215 < ep) = false := decide_eq_false (by have := HA.out; omega)
        have d7 : decide (a < 8) = false := decide_eq_false (by have := HA.out; omega)
        have d8 : decide (a > 65528) = false := decide_eq_false (by have := HA.out; omega)
        have d9 : decide (65528 < a) = false := decide_eq_false (by have := HA.out; omega)
        go_enter Tryz.func84, Tryz.ntmps84
        go_wp2
        go_returns
        exact ⟨rfl, by go_grown⟩
      · rw [show refB sc ep q = false by simp [refB, inB]; omega]
        simp only [Bool.false_eq_true, if_false]
        have d1 : decide (sc < 0) = false := decide_eq_false (by omega)
        have d2 : decide (ep < 0) = false := decide_eq_false (by omega)
        have d3 : decide (sc ≥ 8) = false := decide_eq_false (by have := HA.out; omega)
        have d4 : decide (8 ≤ sc) = false := decide_eq_false (by have := HA.out; omega)
        have d5 : decide (ep > 16777215) = false := decide_eq_false (by have := HA.out; omega)
        have d6 : decide (16777215 < ep) = false := decide_eq_false (by have := HA.out; omega)
        by_cases hq0 : a < 8
        · have d7 : decide (a < 8) = true := decide_eq_true (by have := HA.out; omega)
          go_enter Tryz.func84, Tryz.ntmps84
          go_wp2
          go_returns
          exact ⟨rfl, by go_grown⟩
        · have d7 : decide (a < 8) = false := decide_eq_false (by have := HA.out; omega)
          have d8 : decide (a > 65528) = true := decide_eq_true (by have := HA.out; omega)
          have d9 : decide (65528 < a) = true := decide_eq_true (by have := HA.out; omega)
          go_enter Tryz.func84, Tryz.ntmps84
          go_wp2
          go_returns
          exact ⟨rfl, by go_grown⟩
    · rw [show refB sc ep q = false by simp [refB, inB]; omega]
      simp only [Bool.false_eq_true, if_false]
      have d1 : decide (sc < 0) = false := decide_eq_false (by omega)
      have d2 : decide (ep < 0) = false := decide_eq_false (by omega)
      have d3 : decide (sc ≥ 8) = false := decide_eq_false (by have := HA.out; omega)
      have d4 : decide (8 ≤ sc) = false := decide_eq_false (by have := HA.out; omega)
      have d5 : decide (ep > 16777215) = true := decide_eq_true (by have := HA.out; omega)
      have d6 : decide (16777215 < ep) = true := decide_eq_true (by have := HA.out; omega)
      go_enter Tryz.func84, Tryz.ntmps84
      go_wp2
      go_returns
      exact ⟨rfl, by go_grown⟩
  · rw [show refB sc ep q = false by simp [refB, inB]; omega]
    simp only [Bool.false_eq_true, if_false]
    have d1 : decide (sc < 0) = false := decide_eq_false (by omega)
    have d2 : decide (ep < 0) = false := decide_eq_false (by omega)
    have d3 : decide (sc ≥ 8) = true := decide_eq_true (by have := HA.out; omega)
    have d4 : decide (8 ≤ sc) = true := decide_eq_true (by have := HA.out; omega)
    go_enter Tryz.func84, Tryz.ntmps84
    go_wp2
    go_returns
    exact ⟨rfl, by go_grown⟩



end Go.Proofs.YtbijaloeilnjoaaGreat
