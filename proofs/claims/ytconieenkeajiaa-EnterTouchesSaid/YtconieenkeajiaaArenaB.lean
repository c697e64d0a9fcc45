/- The walk of arena's Word. -/
import Derived.Test.YtconieenkeajiaaArenaA
namespace Go.Proofs.Ytconieenkeajiaa
open Go.RowKit
set_option linter.unusedVariables false

set_option maxRecDepth 100000 in
set_option maxHeartbeats 1000000 in
theorem arnWord_no (p b : Nat) (ws : List Int) (a : Int) (w : World) (h : Arn w p b ws) (ha : -9223372036854775808 ≤ a ∧ a ≤ 9223372036854775807) (hn : atB ws a = false) :
    Calls Try.prog 24 #[.pointer (some ⟨p, 0, none⟩), .int .i64 a] w fun r w' => r = .returned (.tuple #[.int .u64 0, .int .i64 1]) ∧ w' = w := by
  have HI := Lib.hid (arnIs_any p b ws a w h ha)
  have Hn := Lib.hid hn
  clear hn h
  go_enter Try.func24, Try.ntmps24
  go_wp2_with (go_at_call 31; refine HI.out.mono ?_; rintro r w1 ⟨rfl, rfl⟩; rw [Hn.out])
  go_ret2
  exact ⟨rfl, rfl⟩

set_option maxRecDepth 100000 in
set_option maxHeartbeats 2000000 in
theorem arnWord_any (p b : Nat) (ws : List Int) (k : Nat) (x : Int) (w : World) (h : Arn w p b ws) (hk : ws[k]? = some x) :
    Calls Try.prog 24 #[.pointer (some ⟨p, 0, none⟩), .int .i64 ((k * 8 : Nat) : Int)] w fun r w' => r = .returned (.tuple #[.int .u64 x, .int .i64 0]) ∧ w' = w := by
  have hkl := (List.getElem?_eq_some_iff.1 hk).1
  have hs := h.small
  have HI := Lib.hid (arnIs_any p b ws ((k * 8 : Nat) : Int) w h (by omega))
  have Hn := Lib.hid (show atB ws ((k * 8 : Nat) : Int) = true from decide_eq_true (by omega))
  obtain ⟨x0, x1⟩ := h.ok x (List.mem_of_getElem? hk)
  have Hrow := Lib.hid h.row
  have HC : Hid (∀ j, j < 8 → w.cell? ⟨b, k * 8 + j, none⟩ = some (.int .u8 (byteOf x j))) := Lib.hid fun j hj => by rw [row_cell h.row]; exact (by simpa using ws_get ws k j x hk hj)
  obtain ⟨p0, _⟩ := box1 h.box
  obtain ⟨n, Hnn⟩ : ∃ n : Nat, n = ws.length * 8 := ⟨_, rfl⟩
  rw [← Hnn] at p0
  obtain ⟨m, Hm⟩ : ∃ m : Nat, m = k * 8 := ⟨_, rfl⟩
  rw [← Hm] at HI Hn HC ⊢
  have m0 : m + 8 ≤ n := by omega
  have n1 : n ≤ 65536 := by omega
  have HX := Lib.hid (And.intro x0 x1)
  clear Hnn Hm hkl hs h hk x0 x1
  go_enter Try.func24, Try.ntmps24
  go_wp2_with (go_at_call 31; refine HI.out.mono ?_; rintro r w1 ⟨rfl, rfl⟩; rw [Hn.out])
  go_loop [6, 12] (fun t i => ∃ j : Int, 0 ≤ j ∧ j ≤ 8 ∧ i = .int .i64 j ∧ t = .int .u64 (low x j.toNat)) (fun _ i => (8 - intOf i).toNat)
  case atStart => exact ⟨0, by omega, by omega, rfl, by simp [low_zero]⟩
  case round =>
    obtain ⟨j, j0, j8, rfl, rfl⟩ := hrel
    by_cases hlt : j < 8
    · obtain rfl | rfl | rfl | rfl | rfl | rfl | rfl | rfl : j = 0 ∨ j = 1 ∨ j = 2 ∨ j = 3 ∨ j = 4 ∨ j = 5 ∨ j = 6 ∨ j = 7 := by omega
      · have c0 := HC.out 0 (by omega)
        simp only [Nat.add_zero] at c0
        have bb := byteOf_bd x 0
        obtain ⟨y, Hy⟩ : ∃ y, Hid (byteOf x 0 = y) := ⟨_, Lib.hid rfl⟩
        obtain ⟨z, Hz⟩ : ∃ z, Hid (low x 0 = z) := ⟨_, Lib.hid rfl⟩
        rw [Hy.out] at c0 bb
        obtain ⟨bb0, bb1⟩ := bb
        have hz : 0 ≤ z ∧ z ≤ 0 := by rw [← Hz.out]; unfold low; have := HX.out; omega
        obtain ⟨z0, z1⟩ := hz
        have HN := Lib.hid (show bits .or .u64 z y = low x 1 by
          rw [u64_join 0 z y z0 (by omega) (by omega) (by omega) (by omega) (by omega), ← Hy.out, ← Hz.out]
          unfold low byteOf
          have := HX.out
          omega)
        have t1 : ((m : Int) + 0).toNat = m + 0 := by omega
        simp only [Int.reduceToNat]
        rw [Hz.out]
        go_wp2
        go_round
        case rel => exact ⟨1, by omega, by omega, rfl, by rw [HN.out]; rfl⟩
        case measure => simp [intOf]
      · have c0 := HC.out 1 (by omega)
        have bb := byteOf_bd x 1
        obtain ⟨y, Hy⟩ : ∃ y, Hid (byteOf x 1 = y) := ⟨_, Lib.hid rfl⟩
        obtain ⟨z, Hz⟩ : ∃ z, Hid (low x 1 = z) := ⟨_, Lib.hid rfl⟩
        rw [Hy.out] at c0 bb
        obtain ⟨bb0, bb1⟩ := bb
        have hz : 0 ≤ z ∧ z ≤ 255 := by rw [← Hz.out]; unfold low; have := HX.out; omega
        obtain ⟨z0, z1⟩ := hz
        have HN := Lib.hid (show bits .or .u64 z (y * 256) = low x 2 by
          rw [u64_join 8 z (y * 256) z0 (by omega) (by omega) (by omega) (by omega) (by omega), ← Hy.out, ← Hz.out]
          unfold low byteOf
          have := HX.out
          omega)
        have t1 : ((m : Int) + 1).toNat = m + 1 := by omega
        simp only [Int.reduceToNat]
        rw [Hz.out]
        go_wp2
        go_round
        case rel => exact ⟨2, by omega, by omega, rfl, by rw [HN.out]; rfl⟩
        case measure => simp [intOf]
      · have c0 := HC.out 2 (by omega)
        have bb := byteOf_bd x 2
        obtain ⟨y, Hy⟩ : ∃ y, Hid (byteOf x 2 = y) := ⟨_, Lib.hid rfl⟩
        obtain ⟨z, Hz⟩ : ∃ z, Hid (low x 2 = z) := ⟨_, Lib.hid rfl⟩
        rw [Hy.out] at c0 bb
        obtain ⟨bb0, bb1⟩ := bb
        have hz : 0 ≤ z ∧ z ≤ 65535 := by rw [← Hz.out]; unfold low; have := HX.out; omega
        obtain ⟨z0, z1⟩ := hz
        have HN := Lib.hid (show bits .or .u64 z (y * 65536) = low x 3 by
          rw [u64_join 16 z (y * 65536) z0 (by omega) (by omega) (by omega) (by omega) (by omega), ← Hy.out, ← Hz.out]
          unfold low byteOf
          have := HX.out
          omega)
        have t1 : ((m : Int) + 2).toNat = m + 2 := by omega
        simp only [Int.reduceToNat]
        rw [Hz.out]
        go_wp2
        go_round
        case rel => exact ⟨3, by omega, by omega, rfl, by rw [HN.out]; rfl⟩
        case measure => simp [intOf]
      · have c0 := HC.out 3 (by omega)
        have bb := byteOf_bd x 3
        obtain ⟨y, Hy⟩ : ∃ y, Hid (byteOf x 3 = y) := ⟨_, Lib.hid rfl⟩
        obtain ⟨z, Hz⟩ : ∃ z, Hid (low x 3 = z) := ⟨_, Lib.hid rfl⟩
        rw [Hy.out] at c0 bb
        obtain ⟨bb0, bb1⟩ := bb
        have hz : 0 ≤ z ∧ z ≤ 16777215 := by rw [← Hz.out]; unfold low; have := HX.out; omega
        obtain ⟨z0, z1⟩ := hz
        have HN := Lib.hid (show bits .or .u64 z (y * 16777216) = low x 4 by
          rw [u64_join 24 z (y * 16777216) z0 (by omega) (by omega) (by omega) (by omega) (by omega), ← Hy.out, ← Hz.out]
          unfold low byteOf
          have := HX.out
          omega)
        have t1 : ((m : Int) + 3).toNat = m + 3 := by omega
        simp only [Int.reduceToNat]
        rw [Hz.out]
        go_wp2
        go_round
        case rel => exact ⟨4, by omega, by omega, rfl, by rw [HN.out]; rfl⟩
        case measure => simp [intOf]
      · have c0 := HC.out 4 (by omega)
        have bb := byteOf_bd x 4
        obtain ⟨y, Hy⟩ : ∃ y, Hid (byteOf x 4 = y) := ⟨_, Lib.hid rfl⟩
        obtain ⟨z, Hz⟩ : ∃ z, Hid (low x 4 = z) := ⟨_, Lib.hid rfl⟩
        rw [Hy.out] at c0 bb
        obtain ⟨bb0, bb1⟩ := bb
        have hz : 0 ≤ z ∧ z ≤ 4294967295 := by rw [← Hz.out]; unfold low; have := HX.out; omega
        obtain ⟨z0, z1⟩ := hz
        have HN := Lib.hid (show bits .or .u64 z (y * 4294967296) = low x 5 by
          rw [u64_join 32 z (y * 4294967296) z0 (by omega) (by omega) (by omega) (by omega) (by omega), ← Hy.out, ← Hz.out]
          unfold low byteOf
          have := HX.out
          omega)
        have t1 : ((m : Int) + 4).toNat = m + 4 := by omega
        simp only [Int.reduceToNat]
        rw [Hz.out]
        go_wp2
        go_round
        case rel => exact ⟨5, by omega, by omega, rfl, by rw [HN.out]; rfl⟩
        case measure => simp [intOf]
      · have c0 := HC.out 5 (by omega)
        have bb := byteOf_bd x 5
        obtain ⟨y, Hy⟩ : ∃ y, Hid (byteOf x 5 = y) := ⟨_, Lib.hid rfl⟩
        obtain ⟨z, Hz⟩ : ∃ z, Hid (low x 5 = z) := ⟨_, Lib.hid rfl⟩
        rw [Hy.out] at c0 bb
        obtain ⟨bb0, bb1⟩ := bb
        have hz : 0 ≤ z ∧ z ≤ 1099511627775 := by rw [← Hz.out]; unfold low; have := HX.out; omega
        obtain ⟨z0, z1⟩ := hz
        have HN := Lib.hid (show bits .or .u64 z (y * 1099511627776) = low x 6 by
          rw [u64_join 40 z (y * 1099511627776) z0 (by omega) (by omega) (by omega) (by omega) (by omega), ← Hy.out, ← Hz.out]
          unfold low byteOf
          have := HX.out
          omega)
        have t1 : ((m : Int) + 5).toNat = m + 5 := by omega
        simp only [Int.reduceToNat]
        rw [Hz.out]
        go_wp2
        go_round
        case rel => exact ⟨6, by omega, by omega, rfl, by rw [HN.out]; rfl⟩
        case measure => simp [intOf]
      · have c0 := HC.out 6 (by omega)
        have bb := byteOf_bd x 6
        obtain ⟨y, Hy⟩ : ∃ y, Hid (byteOf x 6 = y) := ⟨_, Lib.hid rfl⟩
        obtain ⟨z, Hz⟩ : ∃ z, Hid (low x 6 = z) := ⟨_, Lib.hid rfl⟩
        rw [Hy.out] at c0 bb
        obtain ⟨bb0, bb1⟩ := bb
        have hz : 0 ≤ z ∧ z ≤ 281474976710655 := by rw [← Hz.out]; unfold low; have := HX.out; omega
        obtain ⟨z0, z1⟩ := hz
        have HN := Lib.hid (show bits .or .u64 z (y * 281474976710656) = low x 7 by
          rw [u64_join 48 z (y * 281474976710656) z0 (by omega) (by omega) (by omega) (by omega) (by omega), ← Hy.out, ← Hz.out]
          unfold low byteOf
          have := HX.out
          omega)
        have t1 : ((m : Int) + 6).toNat = m + 6 := by omega
        simp only [Int.reduceToNat]
        rw [Hz.out]
        go_wp2
        go_round
        case rel => exact ⟨7, by omega, by omega, rfl, by rw [HN.out]; rfl⟩
        case measure => simp [intOf]
      · have c0 := HC.out 7 (by omega)
        have bb := byteOf_bd x 7
        obtain ⟨y, Hy⟩ : ∃ y, Hid (byteOf x 7 = y) := ⟨_, Lib.hid rfl⟩
        obtain ⟨z, Hz⟩ : ∃ z, Hid (low x 7 = z) := ⟨_, Lib.hid rfl⟩
        rw [Hy.out] at c0 bb
        obtain ⟨bb0, bb1⟩ := bb
        have hz : 0 ≤ z ∧ z ≤ 72057594037927935 := by rw [← Hz.out]; unfold low; have := HX.out; omega
        obtain ⟨z0, z1⟩ := hz
        have HN := Lib.hid (show bits .or .u64 z (y * 72057594037927936) = low x 8 by
          rw [u64_join 56 z (y * 72057594037927936) z0 (by omega) (by omega) (by omega) (by omega) (by omega), ← Hy.out, ← Hz.out]
          unfold low byteOf
          have := HX.out
          omega)
        have t1 : ((m : Int) + 7).toNat = m + 7 := by omega
        simp only [Int.reduceToNat]
        rw [Hz.out]
        go_wp2
        go_round
        case rel => exact ⟨8, by omega, by omega, rfl, by rw [HN.out]; rfl⟩
        case measure => simp [intOf]
    · obtain rfl : j = 8 := by omega
      have HL := Lib.hid (show low x (8 : Int).toNat = x from low_all HX.out.1 HX.out.2)
      rw [HL.out]
      go_wp2
      go_ret2
      exact ⟨rfl, rfl⟩

end Go.Proofs.Ytconieenkeajiaa
