/- An arena: bytes that are words. Plain. No program in sight. -/
import Derived.Test.YtconieenkeajiaaHeap
namespace Go.Proofs.Ytconieenkeajiaa
open Go.RowKit

/-- a word's byte -/
def byteOf (x : Int) (i : Nat) : Int := x / 256 ^ i % 256
theorem byteOf_bd (x : Int) (i : Nat) : 0 ≤ byteOf x i ∧ byteOf x i ≤ 255 := by unfold byteOf; omega
/-- eight bytes: the first i of them y's, the others x's -/
def mixCells (x y : Int) (i : Nat) : List Value := (List.range 8).map fun j => .int .u8 (if j < i then byteOf y j else byteOf x j)
def wordCells (x : Int) : List Value := mixCells x x 8
theorem mixCells_len (x y : Int) (i : Nat) : (mixCells x y i).length = 8 := by simp [mixCells]
theorem wordCells_len (x : Int) : (wordCells x).length = 8 := mixCells_len x x 8
theorem mixCells_get (x y : Int) (i j : Nat) (h : j < 8) : (mixCells x y i)[j]? = some (.int .u8 (if j < i then byteOf y j else byteOf x j)) := by
  unfold mixCells
  rw [List.getElem?_map, List.getElem?_range h]
  rfl
theorem wordCells_get (x : Int) (j : Nat) (h : j < 8) : (wordCells x)[j]? = some (.int .u8 (byteOf x j)) := by
  unfold wordCells
  rw [mixCells_get x x 8 j h]
  simp
theorem mix_zero (x y : Int) : mixCells x y 0 = wordCells x := by
  apply List.ext_getElem?
  intro j
  by_cases h : j < 8
  · rw [mixCells_get x y 0 j h, wordCells_get x j h]; simp
  · rw [List.getElem?_eq_none (by rw [mixCells_len]; omega), List.getElem?_eq_none (by rw [wordCells_len]; omega)]
theorem mix_eight (x y : Int) : mixCells x y 8 = wordCells y := by
  apply List.ext_getElem?
  intro j
  by_cases h : j < 8
  · rw [mixCells_get x y 8 j h, wordCells_get y j h, if_pos h]
  · rw [List.getElem?_eq_none (by rw [mixCells_len]; omega), List.getElem?_eq_none (by rw [wordCells_len]; omega)]
theorem mix_set (x y : Int) (i : Nat) : (mixCells x y i).set i (.int .u8 (byteOf y i)) = mixCells x y (i + 1) := by
  apply List.ext_getElem?
  intro j
  rw [List.getElem?_set]
  by_cases h : j < 8
  · by_cases e : i = j
    · subst e
      rw [if_pos rfl, if_pos (by rw [mixCells_len]; exact h), mixCells_get x y (i + 1) i h, if_pos (by omega)]
    · rw [if_neg e, mixCells_get x y i j h, mixCells_get x y (i + 1) j h]
      by_cases h2 : j < i
      · rw [if_pos h2, if_pos (by omega)]
      · rw [if_neg h2, if_neg (by omega)]
  · by_cases e : i = j
    · subst e
      rw [if_pos rfl, if_neg (by rw [mixCells_len]; exact h), List.getElem?_eq_none (by rw [mixCells_len]; omega)]
    · rw [if_neg e, List.getElem?_eq_none (by rw [mixCells_len]; omega), List.getElem?_eq_none (by rw [mixCells_len]; omega)]

/-- the first i bytes of a word, as a number -/
def low (x : Int) (i : Nat) : Int := x % 256 ^ i
theorem low_zero (x : Int) : low x 0 = 0 := by simp [low, Int.emod_one]
theorem low_all {x : Int} (h0 : 0 ≤ x) (h1 : x < 18446744073709551616) : low x 8 = x := by
  unfold low
  exact Int.emod_eq_of_lt h0 (by simpa using h1)

/-- the cells of all words -/
abbrev wsCells (ws : List Int) : List Value := ws.flatMap wordCells
theorem ws_len (ws : List Int) : (wsCells ws).length = ws.length * 8 := flat_length wordCells 8 wordCells_len ws
theorem ws_get (ws : List Int) (k j : Nat) (x : Int) (hk : ws[k]? = some x) (hj : j < 8) : (wsCells ws)[k * 8 + j]? = some (.int .u8 (byteOf x j)) := by
  rw [wsCells, flat_get wordCells 8 wordCells_len ws k j hj, hk]
  exact wordCells_get x j hj
/-- all cells, where the word k is half written -/
def halfCells (ws : List Int) (k : Nat) (x y : Int) (i : Nat) : List Value := (ws.take k).flatMap wordCells ++ (mixCells x y i ++ (ws.drop (k + 1)).flatMap wordCells)
theorem half_zero {ws : List Int} {k : Nat} {x : Int} (hk : ws[k]? = some x) (y : Int) : halfCells ws k x y 0 = wsCells ws := by
  have h := (List.getElem?_eq_some_iff.1 hk)
  unfold halfCells wsCells
  rw [mix_zero, ← List.flatMap_cons, ← List.flatMap_append]
  congr 1
  rw [← h.2, List.getElem_cons_drop, List.take_append_drop]
theorem half_eight {ws : List Int} {k : Nat} {x : Int} (hk : ws[k]? = some x) (y : Int) : halfCells ws k x y 8 = wsCells (ws.set k y) := by
  have h := (List.getElem?_eq_some_iff.1 hk).1
  unfold halfCells wsCells
  rw [mix_eight, ← List.flatMap_cons, ← List.flatMap_append, List.set_eq_take_append_cons_drop, if_pos h]
theorem half_len {ws : List Int} {k : Nat} (hk : k < ws.length) (x y : Int) (i : Nat) : (halfCells ws k x y i).length = ws.length * 8 := by
  unfold halfCells
  rw [List.length_append, List.length_append, mixCells_len, flat_length wordCells 8 wordCells_len, flat_length wordCells 8 wordCells_len, List.length_take, List.length_drop]
  omega
theorem half_set {ws : List Int} {k : Nat} (hk : k < ws.length) (x y : Int) (i : Nat) (hi : i < 8) : (halfCells ws k x y i).set (k * 8 + i) (.int .u8 (byteOf y i)) = halfCells ws k x y (i + 1) := by
  unfold halfCells
  have h1 : ((ws.take k).flatMap wordCells).length = k * 8 := by rw [flat_length wordCells 8 wordCells_len, List.length_take, Nat.min_eq_left (Nat.le_of_lt hk)]
  rw [List.set_append_right _ _ (by omega), h1, Nat.add_sub_cancel_left, List.set_append_left _ _ (by rw [mixCells_len]; exact hi), mix_set]

end Go.Proofs.Ytconieenkeajiaa
