/- Bits as sums and remainders. No program in sight. -/
import Derived.Test.YtconieenkeajiaaLib
namespace Go.Proofs.Ytconieenkeajiaa
open Go.RowKit

theorem u64_mask (k : Nat) (x m : Int) (hk : k ≤ 63) (hm : m = 2 ^ k - 1) (h0 : 0 ≤ x) (h1 : x < 18446744073709551616) : bits .and .u64 x m = x % 2 ^ k := by
  obtain ⟨X, rfl⟩ := Int.eq_ofNat_of_zero_le h0
  have hp : (2 : Nat) ^ k ≤ 2 ^ 63 := Nat.pow_le_pow_right (by omega) hk
  have hp0 : 0 < (2 : Nat) ^ k := Nat.pow_pos (by omega)
  have hm' : m = ((2 ^ k - 1 : Nat) : Int) := by rw [hm, Int.natCast_sub (by omega)]; simp
  rw [hm', u64_and_nat X (2 ^ k - 1) (by omega) (by omega), Nat.and_two_pow_sub_one_eq_mod]
  simp
theorem u64_join (k : Nat) (x y : Int) (h0 : 0 ≤ x) (h1 : x < 2 ^ k) (h2 : 0 ≤ y) (h3 : y < 18446744073709551616) (h4 : y % 2 ^ k = 0) (h5 : x < 18446744073709551616) : bits .or .u64 x y = x + y := by
  obtain ⟨X, rfl⟩ := Int.eq_ofNat_of_zero_le h0
  obtain ⟨Y, rfl⟩ := Int.eq_ofNat_of_zero_le h2
  have h4' : Y % 2 ^ k = 0 := by
    have : ((Y % 2 ^ k : Nat) : Int) = 0 := by simpa using h4
    omega
  have h1' : X < 2 ^ k := by
    have : (X : Int) < ((2 ^ k : Nat) : Int) := by simpa using h1
    omega
  rw [u64_or_nat X Y (by omega) (by omega), Nat.or_comm, nat_join k Y X h4' h1']
  simp
  omega

theorem i64_mask (k : Nat) (x m : Int) (hk : k ≤ 62) (hm : m = 2 ^ k - 1) : bits .and .i64 x m = x % 2 ^ k := by
  have hp : (2 : Nat) ^ k ≤ 2 ^ 62 := Nat.pow_le_pow_right (by omega) hk
  have hp0 : 0 < (2 : Nat) ^ k := Nat.pow_pos (by omega)
  have hm' : m = ((2 ^ k - 1 : Nat) : Int) := by rw [hm, Int.natCast_sub (by omega)]; simp
  subst hm'
  show IntKind.i64.wrap ((BitVec.ofInt 64 x &&& BitVec.ofInt 64 ((2 ^ k - 1 : Nat) : Int)).toNat : Int) = _
  rw [BitVec.toNat_and]
  have e1 : (BitVec.ofInt 64 ((2 ^ k - 1 : Nat) : Int)).toNat = 2 ^ k - 1 := by
    rw [BitVec.ofInt_natCast, BitVec.toNat_ofNat]; exact Nat.mod_eq_of_lt (by omega)
  rw [e1, Nat.and_two_pow_sub_one_eq_mod, BitVec.toNat_ofInt]
  have hd : ((2 : Int) ^ k) ∣ ((2 ^ 64 : Nat) : Int) := by
    refine ⟨2 ^ (64 - k), ?_⟩
    rw [← Int.pow_add, show k + (64 - k) = 64 by omega]
    rfl
  have e2 : ((x % ((2 ^ 64 : Nat) : Int)).toNat % 2 ^ k : Nat) = (x % 2 ^ k : Int) := by
    have h0 : 0 ≤ x % ((2 ^ 64 : Nat) : Int) := Int.emod_nonneg _ (by decide)
    rw [Int.natCast_emod, Int.toNat_of_nonneg h0]
    rw [show (((2 ^ k : Nat)) : Int) = (2 : Int) ^ k by simp]
    exact Int.emod_emod_of_dvd x hd
  rw [e2]
  have hpp : (0 : Int) < (2 : Int) ^ k := by
    have h : (0 : Int) < ((2 ^ k : Nat) : Int) := by omega
    simpa using h
  have h1 : 0 ≤ x % (2 : Int) ^ k := Int.emod_nonneg _ (by omega)
  have h2 : x % (2 : Int) ^ k < 2 ^ k := Int.emod_lt_of_pos _ hpp
  have h3 : (2 : Int) ^ k ≤ 4611686018427387904 := by
    have : ((2 ^ k : Nat) : Int) ≤ ((2 ^ 62 : Nat) : Int) := by omega
    simpa using this
  exact IntWalk.i64_in _ (by omega)

theorem mask2 (x : Int) : bits .and .i64 x 3 = x % 4 := i64_mask 2 x 3 (by omega) rfl
theorem mask3 (x : Int) : bits .and .i64 x 7 = x % 8 := i64_mask 3 x 7 (by omega) rfl
theorem mask4 (x : Int) : bits .and .i64 x 15 = x % 16 := i64_mask 4 x 15 (by omega) rfl
theorem mask24 (x : Int) : bits .and .i64 x 16777215 = x % 16777216 := i64_mask 24 x 16777215 (by omega) rfl
theorem umask2 (x : Int) (h0 : 0 ≤ x) (h1 : x < 18446744073709551616) : bits .and .u64 x 3 = x % 4 := u64_mask 2 x 3 (by omega) rfl h0 h1
theorem umask8 (x : Int) (h0 : 0 ≤ x) (h1 : x < 18446744073709551616) : bits .and .u64 x 255 = x % 256 := u64_mask 8 x 255 (by omega) rfl h0 h1
theorem umask24 (x : Int) (h0 : 0 ≤ x) (h1 : x < 18446744073709551616) : bits .and .u64 x 16777215 = x % 16777216 := u64_mask 24 x 16777215 (by omega) rfl h0 h1

end Go.Proofs.Ytconieenkeajiaa
