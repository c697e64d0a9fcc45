/- An arena: bytes that are words. Plain. No program in sight. An arena in memory: the walks of arena's is and Word. The walk of arena's Word. The walks of arena's Put and Cas. The walks of arena's Cas and Len. -/
import Derived.Test.YtbijaloeilnjoaaGreatMA
import Derived.Test.YtbijaloeilnjoaaGreatNum
import Derived.Deep.QuietTactic
import Derived.BigQuiet
import Derived.RegionTactic
namespace Go.Proofs.YtbijaloeilnjoaaGreat
open Go.RowKit

/-- a word's byte -/
def byteOf (x : Int) (i : Nat) : Int := x / 256 ^ i % 256
theorem byteOf_bd (x : Int) (i : Nat) : 0 ≤ byteOf x i ∧ byteOf x i ≤ 255 := by unfold byteOf; omega
/-- eight bytes: the first i of them y's, the others x's -/
def mixCells (x y : Int) (i : Nat) : List Value := (List.range 8).map fun j => .int .u8 (if j < i then byteOf y j else byteOf x j)
def wordCells (x : Int) : List Value := mixCells x x 8
theorem mixCells_len (x y : Int) (i : Nat) : (mixCells x y i).length = 8 := by simp [mixCells]
theorem wordCells_len (x : Int) : (wordCells x).length = 8 := mixCells_len x x 8
theorem mixCells_get (x y : Int) (i j : Nat) (h : j < 8) : (mixCells x y i)[j]? = some (.int .u8 (if j < i then byteOf y j else byteOf x j)) := by
 unfold mixCells
 rw [List.getElem?_map, List.getElem?_range h]
 rfl
theorem wordCells_get (x : Int) (j : Nat) (h : j < 8) : (wordCells x)[j]? = some (.int .u8 (byteOf x j)) := by
 unfold wordCells
 rw [mixCells_get x x 8 j h]
 simp
theorem mix_zero (x y : Int) : mixCells x y 0 = wordCells x := by
 apply List.ext_getElem?
 intro j
 by_cases h : j < 8
 ·rw [mixCells_get x y 0 j h, wordCells_get x j h]; simp
 ·rw [List.getElem?_eq_none (by rw [mixCells_len]; omega), List.getElem?_eq_none (by rw [wordCells_len]; omega)]
theorem mix_eight (x y : Int) : mixCells x y 8 = wordCells y := by
 apply List.ext_getElem?
 intro j
 by_cases h : j < 8
 ·rw [mixCells_get x y 8 j h, wordCells_get y j h, if_pos h]
 ·rw [List.getElem?_eq_none (by rw [mixCells_len]; omega), List.getElem?_eq_none (by rw [wordCells_len]; omega)]
theorem mix_set (x y : Int) (i : Nat) : (mixCells x y i).set i (.int .u8 (byteOf y i)) = mixCells x y (i + 1) := by
 apply List.ext_getElem?
 intro j
 rw [List.getElem?_set]
 by_cases h : j < 8
 ·by_cases e : i = j
  ·subst e
   rw [if_pos rfl, if_pos (by rw [mixCells_len]; exact h), mixCells_get x y (i + 1) i h, if_pos (by omega)]
  ·rw [if_neg e, mixCells_get x y i j h, mixCells_get x y (i + 1) j h]
   by_cases h2 : j < i
   ·rw [if_pos h2, if_pos (by omega)]
   ·rw [if_neg h2, if_neg (by omega)]
 ·by_cases e : i = j
  ·subst e
   rw [if_pos rfl, if_neg (by rw [mixCells_len]; exact h), List.getElem?_eq_none (by rw [mixCells_len]; omega)]
  ·rw [if_neg e, List.getElem?_eq_none (by rw [mixCells_len]; omega), List.getElem?_eq_none (by rw [mixCells_len]; omega)]

/-- the first i bytes of a word, as a number -/
def low (x : Int) (i : Nat) : Int := x % 256 ^ i
theorem low_zero (x : Int) : low x 0 = 0 := by simp [low, Int.emod_one]
theorem low_all {x : Int} (h0 : 0 ≤ x) (h1 : x < 18446744073709551616) : low x 8 = x := by
 unfold low
 exact Int.emod_eq_of_lt h0 (by simpa using h1)

/-- the cells of all words -/
abbrev wsCells (ws : List Int) : List Value := ws.flatMap wordCells
theorem ws_len (ws : List Int) : (wsCells ws).length = ws.length * 8 := flat_length wordCells 8 wordCells_len ws
theorem ws_get (ws : List Int) (k j : Nat) (x : Int) (hk : ws[k]? = some x) (hj : j < 8) : (wsCells ws)[k * 8 + j]? = some (.int .u8 (byteOf x j)) := by
 rw [wsCells, flat_get wordCells 8 wordCells_len ws k j hj, hk]
 exact wordCells_get x j hj
/-- all cells, where the word k is half written -/
def halfCells (ws : List Int) (k : Nat) (x y : Int) (i : Nat) : List Value := (ws.take k).flatMap wordCells ++ (mixCells x y i ++ (ws.drop (k + 1)).flatMap wordCells)
theorem half_zero {ws : List Int} {k : Nat} {x : Int} (hk : ws[k]? = some x) (y : Int) : halfCells ws k x y 0 = wsCells ws := by
 have h := (List.getElem?_eq_some_iff.1 hk)
 unfold halfCells wsCells
 rw [mix_zero, ← List.flatMap_cons, ← List.flatMap_append]
 congr 1
 rw [← h.2, List.getElem_cons_drop, List.take_append_drop]
theorem half_eight {ws : List Int} {k : Nat} {x : Int} (hk : ws[k]? = some x) (y : Int) : halfCells ws k x y 8 = wsCells (ws.set k y) := by
 have h := (List.getElem?_eq_some_iff.1 hk).1
 unfold halfCells wsCells
 rw [mix_eight, ← List.flatMap_cons, ← List.flatMap_append, List.set_eq_take_append_cons_drop, if_pos h]
theorem half_len {ws : List Int} {k : Nat} (hk : k < ws.length) (x y : Int) (i : Nat) : (halfCells ws k x y i).length = ws.length * 8 := by
 unfold halfCells
 rw [List.length_append, List.length_append, mixCells_len, flat_length wordCells 8 wordCells_len, flat_length wordCells 8 wordCells_len, List.length_take, List.length_drop]
 omega
theorem half_set {ws : List Int} {k : Nat} (hk : k < ws.length) (x y : Int) (i : Nat) (hi : i < 8) : (halfCells ws k x y i).set (k * 8 + i) (.int .u8 (byteOf y i)) = halfCells ws k x y (i + 1) := by
 unfold halfCells
 have h1 : ((ws.take k).flatMap wordCells).length = k * 8 := by rw [flat_length wordCells 8 wordCells_len, List.length_take, Nat.min_eq_left (Nat.le_of_lt hk)]
 rw [List.set_append_right _ _ (by omega), h1, Nat.add_sub_cancel_left, List.set_append_left _ _ (by rw [mixCells_len]; exact hi), mix_set]

end Go.Proofs.YtbijaloeilnjoaaGreat

namespace Go.Proofs.YtbijaloeilnjoaaGreat
open Go.RowKit
set_option linter.unusedVariables false

/-- an arena that reads as words: its own block, and that of its bytes -/
structure Arn (w : World) (p b : Nat) (ws : List Int) : Prop where
 box : w.heap[p]? = some (.cells #[.slice (some ⟨b, 0, none⟩) (ws.length * 8) (ws.length * 8)] 116 (0, 0))
 row : w.heap[b]? = some (.cells (wsCells ws).toArray 5 (0, 0))
 ok : ∀ x ∈ ws, 0 ≤ x ∧ x < 18446744073709551616
 ne : p ≠ b
 small : ws.length ≤ 8192
 some : 1 ≤ ws.length
section
variable {w w' : World} {p b : Nat} {ws : List Int}
theorem Arn.below (h : Arn w p b ws) (hb : Below w.heap.size w w') : Arn w' p b ws := { h with box := row_below h.box hb, row := row_below h.row hb }
theorem Arn.kept {S : List Nat} (h : Arn w p b ws) (k : Keep S w w') (hp : p ∉ S) (hb : b ∉ S) : Arn w' p b ws := { h with box := k.row h.box hp, row := k.row h.row hb }
end
/-- whether a word stands at a place -/
def atB (ws : List Int) (a : Int) : Bool := decide (0 ≤ a ∧ a + 8 ≤ ws.length * 8 ∧ a % 8 = 0)

set_option maxRecDepth 100000 in
set_option maxHeartbeats 1000000 in
theorem arnIs_any (p b : Nat) (ws : List Int) (a : Int) (w : World) (h : Arn w p b ws) (ha : -9223372036854775808 ≤ a ∧ a ≤ 9223372036854775807) :
  Calls Tryz.prog 58 #[.pointer (some ⟨p, 0, none⟩), .int .i64 a] w fun r w' => r = .returned (.bool (atB ws a)) ∧ w' = w := by
 obtain ⟨a0, a1⟩ := ha
 have hs := h.small
 have h1 := h.some
 obtain ⟨p0, _⟩ := box1 h.box
 obtain ⟨n, Hn⟩ : ∃ n : Nat, n = ws.length * 8 := ⟨_, rfl⟩
 rw [← Hn] at p0
 have n0 : 8 ≤ n := by omega
 have n1 : n ≤ 65536 := by omega
 clear h
 cases hi : inB a 0 ((n : Int) - 8) with
 | false =>
  rw [show atB ws a = false from decide_eq_false (by have h9 : ¬ (0 ≤ a ∧ a ≤ (n : Int) - 8) := of_decide_eq_false hi; omega)]
  clear Hn hs h1
  go_enter Tryz.func58, Tryz.ntmps58
  go_wp2_with (go_at_call 103; refine (within_any _ _ _ _).mono ?_; rintro r w1 ⟨rfl, rfl⟩; rw [hi])
  go_ret
  exact ⟨rfl, rfl⟩
 | true =>
  have h9 : 0 ≤ a ∧ a ≤ (n : Int) - 8 := of_decide_eq_true hi
  obtain ⟨h90, h91⟩ := h9
  by_cases hm : a % 8 = 0
  ·rw [show atB ws a = true from decide_eq_true ⟨by omega, by omega, hm⟩]
   have hm' : (a % 8 == 0) = true := by simpa using hm
   clear Hn hs h1 hm
   go_enter Tryz.func58, Tryz.ntmps58
   go_wp2_with (go_at_call 103; refine (within_any _ _ _ _).mono ?_; rintro r w1 ⟨rfl, rfl⟩; rw [hi])
   go_ret
   exact ⟨rfl, rfl⟩
  ·rw [show atB ws a = false from decide_eq_false (by omega)]
   have hm' : (a % 8 == 0) = false := by simpa using hm
   clear Hn hs h1 hm
   go_enter Tryz.func58, Tryz.ntmps58
   go_wp2_with (go_at_call 103; refine (within_any _ _ _ _).mono ?_; rintro r w1 ⟨rfl, rfl⟩; rw [hi])
   go_ret
   exact ⟨rfl, rfl⟩

end Go.Proofs.YtbijaloeilnjoaaGreat

namespace Go.Proofs.YtbijaloeilnjoaaGreat
open Go.RowKit
set_option linter.unusedVariables false


set_option maxRecDepth 100000 in
set_option maxHeartbeats 2000000 in
theorem arnWord_any (p b : Nat) (ws : List Int) (k : Nat) (x : Int) (w : World) (h : Arn w p b ws) (hk : ws[k]? = some x) :
  Calls Tryz.prog 23 #[.pointer (some ⟨p, 0, none⟩), .int .i64 ((k * 8 : Nat) : Int)] w fun r w' => r = .returned (.tuple #[.int .u64 x, .int .i64 0]) ∧ w' = w := by
 have hkl := (List.getElem?_eq_some_iff.1 hk).1
 have hs := h.small
 have HI := Lib.hid (arnIs_any p b ws ((k * 8 : Nat) : Int) w h (by omega))
 have Hn := Lib.hid (show atB ws ((k * 8 : Nat) : Int) = true from decide_eq_true (by omega))
 obtain ⟨x0, x1⟩ := h.ok x (List.mem_of_getElem? hk)
 have Hrow := Lib.hid h.row
 have HC : Hid (∀ j, j < 8 → w.cell? ⟨b, k * 8 + j, none⟩ = some (.int .u8 (byteOf x j))) := Lib.hid fun j hj => by rw [row_cell h.row]; exact (by simpa using ws_get ws k j x hk hj)
 obtain ⟨p0, _⟩ := box1 h.box
 obtain ⟨n, Hnn⟩ : ∃ n : Nat, n = ws.length * 8 := ⟨_, rfl⟩
 rw [← Hnn] at p0
 obtain ⟨m, Hm⟩ : ∃ m : Nat, m = k * 8 := ⟨_, rfl⟩
 rw [← Hm] at HI Hn HC ⊢
 have m0 : m + 8 ≤ n := by omega
 have n1 : n ≤ 65536 := by omega
 have HX := Lib.hid (And.intro x0 x1)
 clear Hnn Hm hkl hs h hk x0 x1
 go_enter Tryz.func23, Tryz.ntmps23
 go_wp2_with (go_at_call 58; refine HI.out.mono ?_; rintro r w1 ⟨rfl, rfl⟩; rw [Hn.out])
 go_loop [6, 12] (fun t i => ∃ j : Int, 0 ≤ j ∧ j ≤ 8 ∧ i = .int .i64 j ∧ t = .int .u64 (low x j.toNat)) (fun _ i => (8 - intOf i).toNat)
 case atStart => exact ⟨0, by omega, by omega, rfl, by simp [low_zero]⟩
 case round =>
  obtain ⟨j, j0, j8, rfl, rfl⟩ := hrel
  by_cases hlt : j < 8
  ·obtain rfl | rfl | rfl | rfl | rfl | rfl | rfl | rfl : j = 0 ∨ j = 1 ∨ j = 2 ∨ j = 3 ∨ j = 4 ∨ j = 5 ∨ j = 6 ∨ j = 7 := by omega
   ·have c0 := HC.out 0 (by omega)
    simp only [Nat.add_zero] at c0
    have bb := byteOf_bd x 0
    obtain ⟨y, Hy⟩ : ∃ y, Hid (byteOf x 0 = y) := ⟨_, Lib.hid rfl⟩
    obtain ⟨z, Hz⟩ : ∃ z, Hid (low x 0 = z) := ⟨_, Lib.hid rfl⟩
    rw [Hy.out] at c0 bb
    obtain ⟨bb0, bb1⟩ := bb
    have hz : 0 ≤ z ∧ z ≤ 0 := by rw [← Hz.out]; unfold low; have := HX.out; omega
    obtain ⟨z0, z1⟩ := hz
    have HN := Lib.hid (show bits .or .u64 z y = low x 1 by
     rw [u64_join 0 z y z0 (by omega) (by omega) (by omega) (by omega) (by omega), ← Hy.out, ← Hz.out]
     unfold low byteOf
     have := HX.out
     omega)
    have t1 : ((m : Int) + 0).toNat = m + 0 := by omega
    simp only [Int.reduceToNat]
    rw [Hz.out]
    go_wp2
    go_round
    case rel => exact ⟨1, by omega, by omega, rfl, by rw [HN.out]; rfl⟩
    case measure => simp [intOf]
   ·have c0 := HC.out 1 (by omega)
    have bb := byteOf_bd x 1
    obtain ⟨y, Hy⟩ : ∃ y, Hid (byteOf x 1 = y) := ⟨_, Lib.hid rfl⟩
    obtain ⟨z, Hz⟩ : ∃ z, Hid (low x 1 = z) := ⟨_, Lib.hid rfl⟩
    rw [Hy.out] at c0 bb
    obtain ⟨bb0, bb1⟩ := bb
    have hz : 0 ≤ z ∧ z ≤ 255 := by rw [← Hz.out]; unfold low; have := HX.out; omega
    obtain ⟨z0, z1⟩ := hz
    have HN := Lib.hid (show bits .or .u64 z (y * 256) = low x 2 by
     rw [u64_join 8 z (y * 256) z0 (by omega) (by omega) (by omega) (by omega) (by omega), ← Hy.out, ← Hz.out]
     unfold low byteOf
     have := HX.out
     omega)
    have t1 : ((m : Int) + 1).toNat = m + 1 := by omega
    simp only [Int.reduceToNat]
    rw [Hz.out]
    go_wp2
    go_round
    case rel => exact ⟨2, by omega, by omega, rfl, by rw [HN.out]; rfl⟩
    case measure => simp [intOf]
   ·have c0 := HC.out 2 (by omega)
    have bb := byteOf_bd x 2
    obtain ⟨y, Hy⟩ : ∃ y, Hid (byteOf x 2 = y) := ⟨_, Lib.hid rfl⟩
    obtain ⟨z, Hz⟩ : ∃ z, Hid (low x 2 = z) := ⟨_, Lib.hid rfl⟩
    rw [Hy.out] at c0 bb
    obtain ⟨bb0, bb1⟩ := bb
    have hz : 0 ≤ z ∧ z ≤ 65535 := by rw [← Hz.out]; unfold low; have := HX.out; omega
    obtain ⟨z0, z1⟩ := hz
    have HN := Lib.hid (show bits .or .u64 z (y * 65536) = low x 3 by
     rw [u64_join 16 z (y * 65536) z0 (by omega) (by omega) (by omega) (by omega) (by omega), ← Hy.out, ← Hz.out]
     unfold low byteOf
     have := HX.out
     omega)
    have t1 : ((m : Int) + 2).toNat = m + 2 := by omega
    simp only [Int.reduceToNat]
    rw [Hz.out]
    go_wp2
    go_round
    case rel => exact ⟨3, by omega, by omega, rfl, by rw [HN.out]; rfl⟩
    case measure => simp [intOf]
   ·have c0 := HC.out 3 (by omega)
    have bb := byteOf_bd x 3
    obtain ⟨y, Hy⟩ : ∃ y, Hid (byteOf x 3 = y) := ⟨_, Lib.hid rfl⟩
    obtain ⟨z, Hz⟩ : ∃ z, Hid (low x 3 = z) := ⟨_, Lib.hid rfl⟩
    rw [Hy.out] at c0 bb
    obtain ⟨bb0, bb1⟩ := bb
    have hz : 0 ≤ z ∧ z ≤ 16777215 := by rw [← Hz.out]; unfold low; have := HX.out; omega
    obtain ⟨z0, z1⟩ := hz
    have HN := Lib.hid (show bits .or .u64 z (y * 16777216) = low x 4 by
     rw [u64_join 24 z (y * 16777216) z0 (by omega) (by omega) (by omega) (by omega) (by omega), ← Hy.out, ← Hz.out]
     unfold low byteOf
     have := HX.out
     omega)
    have t1 : ((m : Int) + 3).toNat = m + 3 := by omega
    simp only [Int.reduceToNat]
    rw [Hz.out]
    go_wp2
    go_round
    case rel => exact ⟨4, by omega, by omega, rfl, by rw [HN.out]; rfl⟩
    case measure => simp [intOf]
   ·have c0 := HC.out 4 (by omega)
    have bb := byteOf_bd x 4
    obtain ⟨y, Hy⟩ : ∃ y, Hid (byteOf x 4 = y) := ⟨_, Lib.hid rfl⟩
    obtain ⟨z, Hz⟩ : ∃ z, Hid (low x 4 = z) := ⟨_, Lib.hid rfl⟩
    rw [Hy.out] at c0 bb
    obtain ⟨bb0, bb1⟩ := bb
    have hz : 0 ≤ z ∧ z ≤ 4294967295 := by rw [← Hz.out]; unfold low; have := HX.out; omega
    obtain ⟨z0, z1⟩ := hz
    have HN := Lib.hid (show bits .or .u64 z (y * 4294967296) = low x 5 by
     rw [u64_join 32 z (y * 4294967296) z0 (by omega) (by omega) (by omega) (by omega) (by omega), ← Hy.out, ← Hz.out]
     unfold low byteOf
     have := HX.out
     omega)
    have t1 : ((m : Int) + 4).toNat = m + 4 := by omega
    simp only [Int.reduceToNat]
    rw [Hz.out]
    go_wp2
    go_round
    case rel => exact ⟨5, by omega, by omega, rfl, by rw [HN.out]; rfl⟩
    case measure => simp [intOf]
   ·have c0 := HC.out 5 (by omega)
    have bb := byteOf_bd x 5
    obtain ⟨y, Hy⟩ : ∃ y, Hid (byteOf x 5 = y) := ⟨_, Lib.hid rfl⟩
    obtain ⟨z, Hz⟩ : ∃ z, Hid (low x 5 = z) := ⟨_, Lib.hid rfl⟩
    rw [Hy.out] at c0 bb
    obtain ⟨bb0, bb1⟩ := bb
    have hz : 0 ≤ z ∧ z ≤ 1099511627775 := by rw [← Hz.out]; unfold low; have := HX.out; omega
    obtain ⟨z0, z1⟩ := hz
    have HN := Lib.hid (show bits .or .u64 z (y * 1099511627776) = low x 6 by
     rw [u64_join 40 z (y * 1099511627776) z0 (by omega) (by omega) (by omega) (by omega) (by omega), ← Hy.out, ← Hz.out]
     unfold low byteOf
     have := HX.out
     omega)
    have t1 : ((m : Int) + 5).toNat = m + 5 := by omega
    simp only [Int.reduceToNat]
    rw [Hz.out]
    go_wp2
    go_round
    case rel => exact ⟨6, by omega, by omega, rfl, by rw [HN.out]; rfl⟩
    case measure => simp [intOf]
   ·have c0 := HC.out 6 (by omega)
    have bb := byteOf_bd x 6
    obtain ⟨y, Hy⟩ : ∃ y, Hid (byteOf x 6 = y) := ⟨_, Lib.hid rfl⟩
    obtain ⟨z, Hz⟩ : ∃ z, Hid (low x 6 = z) := ⟨_, Lib.hid rfl⟩
    rw [Hy.out] at c0 bb
    obtain ⟨bb0, bb1⟩ := bb
    have hz : 0 ≤ z ∧ z ≤ 281474976710655 := by rw [← Hz.out]; unfold low; have := HX.out; omega
    obtain ⟨z0, z1⟩ := hz
    have HN := Lib.hid (show bits .or .u64 z (y * 281474976710656) = low x 7 by
     rw [u64_join 48 z (y * 281474976710656) z0 (by omega) (by omega) (by omega) (by omega) (by omega), ← Hy.out, ← Hz.out]
     unfold low byteOf
     have := HX.out
     omega)
    have t1 : ((m : Int) + 6).toNat = m + 6 := by omega
    simp only [Int.reduceToNat]
    rw [Hz.out]
    go_wp2
    go_round
    case rel => exact ⟨7, by omega, by omega, rfl, by rw [HN.out]; rfl⟩
    case measure => simp [intOf]
   ·have c0 := HC.out 7 (by omega)
    have bb := byteOf_bd x 7
    obtain ⟨y, Hy⟩ : ∃ y, Hid (byteOf x 7 = y) := ⟨_, Lib.hid rfl⟩
    obtain ⟨z, Hz⟩ : ∃ z, Hid (low x 7 = z) := ⟨_, Lib.hid rfl⟩
    rw [Hy.out] at c0 bb
    obtain ⟨bb0, bb1⟩ := bb
    have hz : 0 ≤ z ∧ z ≤ 72057594037927935 := by rw [← Hz.out]; unfold low; have := HX.out; omega
    obtain ⟨z0, z1⟩ := hz
    have HN := Lib.hid (show bits .or .u64 z (y * 72057594037927936) = low x 8 by
     rw [u64_join 56 z (y * 72057594037927936) z0 (by omega) (by omega) (by omega) (by omega) (by omega), ← Hy.out, ← Hz.out]
     unfold low byteOf
     have := HX.out
     omega)
    have t1 : ((m : Int) + 7).toNat = m + 7 := by omega
    simp only [Int.reduceToNat]
    rw [Hz.out]
    go_wp2
    go_round
    case rel => exact ⟨8, by omega, by omega, rfl, by rw [HN.out]; rfl⟩
    case measure => simp [intOf]
  ·obtain rfl : j = 8 := by omega
   have HL := Lib.hid (show low x (8 : Int).toNat = x from low_all HX.out.1 HX.out.2)
   rw [HL.out]
   go_wp2
   go_ret2
   exact ⟨rfl, rfl⟩

end Go.Proofs.YtbijaloeilnjoaaGreat

namespace Go.Proofs.YtbijaloeilnjoaaGreat
open Go.RowKit
set_option linter.unusedVariables false

set_option maxRecDepth 100000 in
set_option maxHeartbeats 2000000 in
theorem arnPut_any (p b : Nat) (ws : List Int) (k : Nat) (x y : Int) (w : World) (h : Arn w p b ws) (hk : ws[k]? = some x) (hy : 0 ≤ y ∧ y < 18446744073709551616) :
  Calls Tryz.prog 40 #[.pointer (some ⟨p, 0, none⟩), .int .i64 ((k * 8 : Nat) : Int), .int .u64 y] w fun r w' => r = .returned (.int .i64 0) ∧ Arn w' p b (ws.set k y) ∧ Keep [b] w w' := by
 have hkl := (List.getElem?_eq_some_iff.1 hk).1
 have hs := h.small
 have hne := h.ne
 have HI := Lib.hid (arnIs_any p b ws ((k * 8 : Nat) : Int) w h (by omega))
 have Hn := Lib.hid (show atB ws ((k * 8 : Nat) : Int) = true from decide_eq_true (by omega))
 obtain ⟨p0, _⟩ := box1 h.box
 obtain ⟨n, Hnn⟩ : ∃ n : Nat, n = ws.length * 8 := ⟨_, rfl⟩
 rw [← Hnn] at p0
 have HA := Lib.hid h
 have HK := Lib.hid hk
 have HKl := Lib.hid hkl
 have Hmk : Hid (∀ m, m = k * 8 → True) := Lib.hid fun _ _ => trivial
 obtain ⟨m, Hm⟩ : ∃ m : Nat, m = k * 8 := ⟨_, rfl⟩
 rw [← Hm] at HI Hn ⊢
 have HM := Lib.hid Hm
 have m0 : m + 8 ≤ n := by omega
 have n1 : n ≤ 65536 := by omega
 have Hy := Lib.hid hy
 have HN := Lib.hid Hnn
 obtain ⟨y0, y1⟩ := hy
 clear Hnn Hm hkl hs h hk
 go_enter Tryz.func40, Tryz.ntmps40
 go_wp2_with (go_at_call 58; refine HI.out.mono ?_; rintro r w1 ⟨rfl, e1⟩; rw [e1]; clear e1 w1; rw [Hn.out])
 go_loopw [12] (fun i wr => ∃ j : Int, 0 ≤ j ∧ j ≤ 8 ∧ i = .int .i64 j ∧ wr.heap[b]? = some (.cells (halfCells ws k x y j.toNat).toArray 5 (0, 0)) ∧ Keep [b] w wr) (fun i _ => (8 - intOf i).toNat)
 case atStart => exact ⟨0, by omega, by omega, rfl, by rw [show (0 : Int).toNat = 0 from rfl, half_zero HK.out]; exact HA.out.row, Keep.refl _ _⟩
 case round =>
  obtain ⟨j, j0, j8, rfl, hrow, hK⟩ := hrel
  have HR := Lib.hid hrow
  have HKp := Lib.hid hK
  obtain ⟨q0, _⟩ := box1 (hK.row HA.out.box (by simpa using hne))
  rw [← HN.out] at q0
  have hbf : ∀ o, wr.frozen? ⟨b, o, none⟩ = false := fun o => row_frozen hrow o
  have zb := lt_of_heap hrow
  clear hrow hK
  by_cases hlt : j < 8
  ·obtain rfl | rfl | rfl | rfl | rfl | rfl | rfl | rfl : j = 0 ∨ j = 1 ∨ j = 2 ∨ j = 3 ∨ j = 4 ∨ j = 5 ∨ j = 6 ∨ j = 7 := by omega
   ·obtain ⟨u, hu⟩ : ∃ u, (halfCells ws k x y 0)[k * 8 + 0]? = some u := ⟨_, List.getElem?_eq_getElem (by rw [half_len HKl.out]; have := HKl.out; omega)⟩
    have hc : wr.cell? ⟨b, m, none⟩ = some u := by rw [row_cell HR.out, HM.out, List.getElem?_toArray]; exact hu
    have HS := Lib.hid (half_set HKl.out x y 0 (by omega))
    have tn : ((m : Int)).toNat = m := by omega
    clear hu
    go_wp2
    go_region
    go_wp2
    go_roundw
    case rel => exact ⟨1, by omega, by omega, rfl, heap_drew ((row_set (i := m) HR.out _).trans (by rw [HM.out, List.setIfInBounds_toArray]; first | (rw [show (1 : Int).toNat = 1 from rfl, ← HS.out]; rfl) | (rw [show (1 : Int).toNat = 1 from rfl, ← HS.out]; simp [byteOf]))), (HKp.out.setCell (p := ⟨b, m, none⟩) (.inl (by simp)) _).drew⟩
    case measure => simp [intOf]
   ·obtain ⟨u, hu⟩ : ∃ u, (halfCells ws k x y 1)[k * 8 + 1]? = some u := ⟨_, List.getElem?_eq_getElem (by rw [half_len HKl.out]; have := HKl.out; omega)⟩
    have hc : wr.cell? ⟨b, m + 1, none⟩ = some u := by rw [row_cell HR.out, HM.out, List.getElem?_toArray]; exact hu
    have HS := Lib.hid (half_set HKl.out x y 1 (by omega))
    have tn : ((m : Int) + 1).toNat = m + 1 := by omega
    clear hu
    go_wp2
    go_region
    go_wp2
    go_roundw
    case rel => exact ⟨2, by omega, by omega, rfl, heap_drew ((row_set (i := m + 1) HR.out _).trans (by rw [HM.out, List.setIfInBounds_toArray]; first | (rw [show (2 : Int).toNat = 2 from rfl, ← HS.out]; rfl) | (rw [show (2 : Int).toNat = 2 from rfl, ← HS.out]; simp [byteOf]))), (HKp.out.setCell (p := ⟨b, m + 1, none⟩) (.inl (by simp)) _).drew⟩
    case measure => simp [intOf]
   ·obtain ⟨u, hu⟩ : ∃ u, (halfCells ws k x y 2)[k * 8 + 2]? = some u := ⟨_, List.getElem?_eq_getElem (by rw [half_len HKl.out]; have := HKl.out; omega)⟩
    have hc : wr.cell? ⟨b, m + 2, none⟩ = some u := by rw [row_cell HR.out, HM.out, List.getElem?_toArray]; exact hu
    have HS := Lib.hid (half_set HKl.out x y 2 (by omega))
    have tn : ((m : Int) + 2).toNat = m + 2 := by omega
    clear hu
    go_wp2
    go_region
    go_wp2
    go_roundw
    case rel => exact ⟨3, by omega, by omega, rfl, heap_drew ((row_set (i := m + 2) HR.out _).trans (by rw [HM.out, List.setIfInBounds_toArray]; first | (rw [show (3 : Int).toNat = 3 from rfl, ← HS.out]; rfl) | (rw [show (3 : Int).toNat = 3 from rfl, ← HS.out]; simp [byteOf]))), (HKp.out.setCell (p := ⟨b, m + 2, none⟩) (.inl (by simp)) _).drew⟩
    case measure => simp [intOf]
   ·obtain ⟨u, hu⟩ : ∃ u, (halfCells ws k x y 3)[k * 8 + 3]? = some u := ⟨_, List.getElem?_eq_getElem (by rw [half_len HKl.out]; have := HKl.out; omega)⟩
    have hc : wr.cell? ⟨b, m + 3, none⟩ = some u := by rw [row_cell HR.out, HM.out, List.getElem?_toArray]; exact hu
    have HS := Lib.hid (half_set HKl.out x y 3 (by omega))
    have tn : ((m : Int) + 3).toNat = m + 3 := by omega
    clear hu
    go_wp2
    go_region
    go_wp2
    go_roundw
    case rel => exact ⟨4, by omega, by omega, rfl, heap_drew ((row_set (i := m + 3) HR.out _).trans (by rw [HM.out, List.setIfInBounds_toArray]; first | (rw [show (4 : Int).toNat = 4 from rfl, ← HS.out]; rfl) | (rw [show (4 : Int).toNat = 4 from rfl, ← HS.out]; simp [byteOf]))), (HKp.out.setCell (p := ⟨b, m + 3, none⟩) (.inl (by simp)) _).drew⟩
    case measure => simp [intOf]
   ·obtain ⟨u, hu⟩ : ∃ u, (halfCells ws k x y 4)[k * 8 + 4]? = some u := ⟨_, List.getElem?_eq_getElem (by rw [half_len HKl.out]; have := HKl.out; omega)⟩
    have hc : wr.cell? ⟨b, m + 4, none⟩ = some u := by rw [row_cell HR.out, HM.out, List.getElem?_toArray]; exact hu
    have HS := Lib.hid (half_set HKl.out x y 4 (by omega))
    have tn : ((m : Int) + 4).toNat = m + 4 := by omega
    clear hu
    go_wp2
    go_region
    go_wp2
    go_roundw
    case rel => exact ⟨5, by omega, by omega, rfl, heap_drew ((row_set (i := m + 4) HR.out _).trans (by rw [HM.out, List.setIfInBounds_toArray]; first | (rw [show (5 : Int).toNat = 5 from rfl, ← HS.out]; rfl) | (rw [show (5 : Int).toNat = 5 from rfl, ← HS.out]; simp [byteOf]))), (HKp.out.setCell (p := ⟨b, m + 4, none⟩) (.inl (by simp)) _).drew⟩
    case measure => simp [intOf]
   ·obtain ⟨u, hu⟩ : ∃ u, (halfCells ws k x y 5)[k * 8 + 5]? = some u := ⟨_, List.getElem?_eq_getElem (by rw [half_len HKl.out]; have := HKl.out; omega)⟩
    have hc : wr.cell? ⟨b, m + 5, none⟩ = some u := by rw [row_cell HR.out, HM.out, List.getElem?_toArray]; exact hu
    have HS := Lib.hid (half_set HKl.out x y 5 (by omega))
    have tn : ((m : Int) + 5).toNat = m + 5 := by omega
    clear hu
    go_wp2
    go_region
    go_wp2
    go_roundw
    case rel => exact ⟨6, by omega, by omega, rfl, heap_drew ((row_set (i := m + 5) HR.out _).trans (by rw [HM.out, List.setIfInBounds_toArray]; first | (rw [show (6 : Int).toNat = 6 from rfl, ← HS.out]; rfl) | (rw [show (6 : Int).toNat = 6 from rfl, ← HS.out]; simp [byteOf]))), (HKp.out.setCell (p := ⟨b, m + 5, none⟩) (.inl (by simp)) _).drew⟩
    case measure => simp [intOf]
   ·obtain ⟨u, hu⟩ : ∃ u, (halfCells ws k x y 6)[k * 8 + 6]? = some u := ⟨_, List.getElem?_eq_getElem (by rw [half_len HKl.out]; have := HKl.out; omega)⟩
    have hc : wr.cell? ⟨b, m + 6, none⟩ = some u := by rw [row_cell HR.out, HM.out, List.getElem?_toArray]; exact hu
    have HS := Lib.hid (half_set HKl.out x y 6 (by omega))
    have tn : ((m : Int) + 6).toNat = m + 6 := by omega
    clear hu
    go_wp2
    go_region
    go_wp2
    go_roundw
    case rel => exact ⟨7, by omega, by omega, rfl, heap_drew ((row_set (i := m + 6) HR.out _).trans (by rw [HM.out, List.setIfInBounds_toArray]; first | (rw [show (7 : Int).toNat = 7 from rfl, ← HS.out]; rfl) | (rw [show (7 : Int).toNat = 7 from rfl, ← HS.out]; simp [byteOf]))), (HKp.out.setCell (p := ⟨b, m + 6, none⟩) (.inl (by simp)) _).drew⟩
    case measure => simp [intOf]
   ·obtain ⟨u, hu⟩ : ∃ u, (halfCells ws k x y 7)[k * 8 + 7]? = some u := ⟨_, List.getElem?_eq_getElem (by rw [half_len HKl.out]; have := HKl.out; omega)⟩
    have hc : wr.cell? ⟨b, m + 7, none⟩ = some u := by rw [row_cell HR.out, HM.out, List.getElem?_toArray]; exact hu
    have HS := Lib.hid (half_set HKl.out x y 7 (by omega))
    have tn : ((m : Int) + 7).toNat = m + 7 := by omega
    clear hu
    go_wp2
    go_region
    go_wp2
    go_roundw
    case rel => exact ⟨8, by omega, by omega, rfl, heap_drew ((row_set (i := m + 7) HR.out _).trans (by rw [HM.out, List.setIfInBounds_toArray]; first | (rw [show (8 : Int).toNat = 8 from rfl, ← HS.out]; rfl) | (rw [show (8 : Int).toNat = 8 from rfl, ← HS.out]; (have e7 : y / 72057594037927936 % 256 = y / 72057594037927936 := by omega); simp [byteOf, e7]))), (HKp.out.setCell (p := ⟨b, m + 7, none⟩) (.inl (by simp)) _).drew⟩
    case measure => simp [intOf]
  ·obtain rfl : j = 8 := by omega
   go_wp2
   go_ret
   have hr := HR.out
   rw [show (8 : Int).toNat = 8 from rfl, half_eight HK.out] at hr
   refine ⟨rfl, ⟨?_, hr, ?_, HA.out.ne, (by simpa using HA.out.small), (by simpa using HA.out.some)⟩, HKp.out⟩
   ·rw [List.length_set]
    exact HKp.out.row HA.out.box (by simpa using hne)
   ·intro z hz
    rcases List.mem_or_eq_of_mem_set hz with h1 | h1
    ·exact HA.out.ok z h1
    ·rw [h1]; exact Hy.out

end Go.Proofs.YtbijaloeilnjoaaGreat

namespace Go.Proofs.YtbijaloeilnjoaaGreat
open Go.RowKit
set_option linter.unusedVariables false

set_option maxRecDepth 100000 in
set_option maxHeartbeats 1000000 in
theorem arnCas_no (p b : Nat) (ws : List Int) (k : Nat) (x old y : Int) (w : World) (h : Arn w p b ws) (hk : ws[k]? = some x) (hne : x ≠ old) :
  Calls Tryz.prog 125 #[.pointer (some ⟨p, 0, none⟩), .int .i64 ((k * 8 : Nat) : Int), .int .u64 old, .int .u64 y] w fun r w' => r = .returned (.tuple #[.bool false, .int .i64 0]) ∧ w' = w := by
 have HW := Lib.hid (arnWord_any p b ws k x w h hk)
 have hne' : (x != old) = true := by simpa using hne
 clear hne h hk
 go_enter Tryz.func125, Tryz.ntmps125
 go_wp2_with (go_at_call 23; refine HW.out.mono ?_; rintro r w1 ⟨rfl, rfl⟩)
 go_ret2
 exact ⟨rfl, rfl⟩

set_option maxRecDepth 100000 in
set_option maxHeartbeats 1000000 in
theorem arnCas_yes (p b : Nat) (ws : List Int) (k : Nat) (x y : Int) (w : World) (h : Arn w p b ws) (hk : ws[k]? = some x) (hy : 0 ≤ y ∧ y < 18446744073709551616) :
  Calls Tryz.prog 125 #[.pointer (some ⟨p, 0, none⟩), .int .i64 ((k * 8 : Nat) : Int), .int .u64 x, .int .u64 y] w fun r w' => r = .returned (.tuple #[.bool true, .int .i64 0]) ∧ Arn w' p b (ws.set k y) ∧ Keep [b] w w' := by
 have HW := Lib.hid (arnWord_any p b ws k x w h hk)
 have HP := Lib.hid (arnPut_any p b ws k x y w h hk hy)
 clear h hk hy
 go_enter Tryz.func125, Tryz.ntmps125
 go_wp2_with fail
 refine HW.out.mono ?_
 rintro r w1 ⟨rfl, e1⟩
 rw [e1]
 clear e1 w1
 go_wp2_with fail
 refine HP.out.mono ?_
 rintro r w2 ⟨rfl, hA, hK⟩
 have HA := Lib.hid hA
 have HKp := Lib.hid hK
 clear hA hK
 go_wp2_with fail
 go_ret2
 exact ⟨rfl, HA.out, HKp.out⟩


end Go.Proofs.YtbijaloeilnjoaaGreat
