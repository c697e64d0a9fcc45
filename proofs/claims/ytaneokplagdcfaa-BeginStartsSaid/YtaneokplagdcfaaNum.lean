/- Bounds, sums and plans: the walks of num and of plans that are made. -/
import Derived.Test.YtaneokplagdcfaaCtlPlain
import Derived.Test.YtaneokplagdcfaaBits
import Derived.Test.YtaneokplagdcfaaLib
namespace Go.Proofs.Ytaneokplagdcfaa
open Go.RowKit

set_option maxHeartbeats 400000 in
theorem within_any (n lo hi : Int) (w : World) :
    Calls Try.prog 47 #[.int .i64 n, .int .i64 lo, .int .i64 hi] w fun e w' => e = .returned (.bool (inB n lo hi)) ∧ w' = w := by
  by_cases h : lo ≤ n
  · rw [show inB n lo hi = decide (n ≤ hi) by simp [inB, h]]
    have hd : decide (lo ≤ n) = true := decide_eq_true h
    go_enter Try.func47, Try.ntmps47
    go_wp2
    go_ret
    exact ⟨rfl, rfl⟩
  · rw [inB_f (fun h' => h h'.1)]
    have hd : decide (lo ≤ n) = false := decide_eq_false h
    go_enter Try.func47, Try.ntmps47
    go_wp2
    go_ret
    exact ⟨rfl, rfl⟩

/-- what is found by a search -/
theorem findIdx_some {α : Type} {p : α → Bool} {l : List α} {i : Nat} (h : l.findIdx? p = some i) : ∃ x, l[i]? = some x ∧ i < l.length ∧ p x = true ∧ ∀ j y, j < i → l[j]? = some y → p y = false := by
  induction l generalizing i with
  | nil => simp at h
  | cons a l ih =>
    rw [List.findIdx?_cons] at h
    split at h
    · rename_i ha
      injection h with h
      subst h
      exact ⟨a, rfl, by simp, ha, by omega⟩
    · rename_i ha
      cases hf : l.findIdx? p with
      | none => rw [hf] at h; simp at h
      | some k =>
        rw [hf] at h
        simp at h
        subst h
        obtain ⟨x, h1, h2, h3, h4⟩ := ih hf
        refine ⟨x, by simpa using h1, by simp; omega, h3, fun j y hj hy => ?_⟩
        cases j with
        | zero => simp at hy; subst hy; simpa using ha
        | succ j => exact h4 j y (by omega) (by simpa using hy)
theorem findIdx_none {α : Type} {p : α → Bool} {l : List α} (h : l.findIdx? p = none) : ∀ x ∈ l, p x = false := by
  simpa using h
theorem findIdx_mk {α : Type} {p : α → Bool} {l : List α} {i : Nat} {x : α} (h1 : l[i]? = some x) (h2 : p x = true) (h3 : ∀ j y, j < i → l[j]? = some y → p y = false) : l.findIdx? p = some i := by
  cases h : l.findIdx? p with
  | none =>
    have := findIdx_none h x (List.mem_of_getElem? h1)
    rw [h2] at this
    cases this
  | some k =>
    obtain ⟨y, k1, _, k2, k3⟩ := findIdx_some h
    rcases Nat.lt_trichotomy i k with g | g | g
    · have := k3 i x g h1
      rw [h2] at this
      cases this
    · rw [g]
    · have := h3 k y g k1
      rw [k2] at this
      cases this
def up8 (n : Int) : Int := (n + 7) / 8 * 8
/-- a plan -/
structure Pln where
  s : Int
  t : Int
  i : Int
  h : Int
abbrev Pln.val (p : Pln) : Value := .agg #[.int .i64 p.s, .int .i64 p.t, .int .i64 p.i, .int .i64 p.h]
def PlnOk (p : Pln) : Prop := 1 ≤ p.s ∧ p.s ≤ 8 ∧ 1 ≤ p.t ∧ p.t ≤ 4 ∧ 0 ≤ p.i ∧ p.i ≤ 2048 ∧ 0 ≤ p.h ∧ p.h ≤ 8192 ∧ p.i % 8 = 0 ∧ p.h % 8 = 0
def fitP (p : Pln) : Pln := ⟨1 + p.s % 8, 1 + p.t % 4, 8 * (p.i % 64), 8 * (p.h % 128)⟩
theorem fitP_ok (p : Pln) : PlnOk (fitP p) := by unfold PlnOk fitP; simp only; omega

theorem nat_hi8 (N : Nat) (h : N < 18446744073709551616) : N &&& 18446744073709551608 = N / 8 * 8 := by
  apply Nat.eq_of_testBit_eq
  intro i
  rw [Nat.testBit_and, show 18446744073709551608 = 2 ^ 64 - (7 + 1) by decide, Nat.testBit_two_pow_sub_succ (by decide), show (7 : Nat) = 2 ^ 3 - 1 by decide, Nat.testBit_two_pow_sub_one, show N / 8 * 8 = N / 2 ^ 3 * 2 ^ 3 by omega, Nat.testBit_mul_two_pow, Nat.testBit_div_two_pow]
  by_cases h3 : i < 3
  · simp [h3]; intro; omega
  · by_cases h64 : i < 64
    · simp [h64, show 3 ≤ i by omega, show i - 3 + 3 = i by omega]
    · have hlt : N < 2 ^ i := Nat.lt_of_lt_of_le h (by rw [show 18446744073709551616 = 2 ^ 64 by decide]; exact Nat.pow_le_pow_right (by omega) (by omega))
      simp [Nat.testBit_lt_two_pow hlt, show 3 ≤ i by omega, show i - 3 + 3 = i by omega]
theorem andNot7 (x : Int) (h0 : -9223372036854775808 ≤ x) (h1 : x ≤ 9223372036854775807) : bits .andNot .i64 x 7 = x / 8 * 8 := by
  show IntKind.i64.wrap ((BitVec.ofInt 64 x &&& ~~~BitVec.ofInt 64 7).toNat : Int) = _
  have h7 : (BitVec.ofInt 64 7).toNat = 7 := by decide
  rw [BitVec.toNat_and, BitVec.toNat_not, h7, show 2 ^ 64 - 1 - 7 = 18446744073709551608 by decide, nat_hi8 _ (BitVec.isLt _), BitVec.toNat_ofInt, IntKind.wrap_i64]
  omega

set_option maxHeartbeats 400000 in
theorem add_any (n : Int) (w : World) (h0 : 0 ≤ n) (h1 : n ≤ 65536) : Calls Try.prog 95 #[.int .i64 n, .int .i64 7] w fun r w' => r = .returned (.tuple #[.int .i64 (n + 7), .int .i64 0]) ∧ w' = w := by
  have hd : decide (n + 7 > n) = true := decide_eq_true (by omega)
  have hd2 : decide (n < n + 7) = true := decide_eq_true (by omega)
  go_enter Try.func95, Try.ntmps95
  go_wp2
  go_ret2
  exact ⟨rfl, rfl⟩
set_option maxHeartbeats 400000 in
theorem up_any (n : Int) (w : World) (h0 : 0 ≤ n) (h1 : n ≤ 65536) : Calls Try.prog 93 #[.int .i64 n] w fun r w' => r = .returned (.tuple #[.int .i64 (up8 n), .int .i64 0]) ∧ w' = w := by
  have hu : bits .andNot .i64 (n + 7) 7 = up8 n := andNot7 _ (by omega) (by omega)
  have hn : decide (n < 0) = false := decide_eq_false (by omega)
  go_enter Try.func93, Try.ntmps93
  go_wp2_with (go_at_call 95; refine (add_any _ _ h0 h1).mono ?_; rintro r w1 ⟨rfl, rfl⟩)
  go_ret2
  exact ⟨by rw [← hu]; rfl, rfl⟩

set_option maxHeartbeats 1000000 in
theorem fit_plan (P : Pln) (w : World) : Calls Try.prog 8 #[P.val] w fun r w' => r = .returned (fitP P).val ∧ Below w.heap.size w w' := by
  obtain ⟨s, t, i, m⟩ := P
  have e1 : bits .and .i64 s 7 = s % 8 := mask3 s
  have e2 : bits .and .i64 t 3 = t % 4 := mask2 t
  have e3 : bits .and .i64 i 63 = i % 64 := i64_mask 6 i 63 (by omega) rfl
  have e4 : bits .and .i64 m 127 = m % 128 := i64_mask 7 m 127 (by omega) rfl
  have b1 : 0 ≤ s % 8 ∧ s % 8 ≤ 7 := by omega
  have b2 : 0 ≤ t % 4 ∧ t % 4 ≤ 3 := by omega
  have b3 : 0 ≤ i % 64 ∧ i % 64 ≤ 63 := by omega
  have b4 : 0 ≤ m % 128 ∧ m % 128 ≤ 127 := by omega
  rw [show fitP ⟨s, t, i, m⟩ = ⟨1 + bits .and .i64 s 7, 1 + bits .and .i64 t 3, 8 * bits .and .i64 i 63, 8 * bits .and .i64 m 127⟩ by rw [e1, e2, e3, e4]; rfl]
  rw [← e1] at b1
  rw [← e2] at b2
  rw [← e3] at b3
  rw [← e4] at b4
  clear e1 e2 e3 e4
  go_enter Try.func8, Try.ntmps8
  go_wp2
  go_returns
  exact ⟨rfl, by go_grown⟩

end Go.Proofs.Ytaneokplagdcfaa
