/- Chains of entries, in plain terms: an entry is a scope and whether it is counted. No program in sight. -/
import Derived.Test.YtconieenkeajiaaLib
namespace Go.Proofs.Ytconieenkeajiaa
open Go.RowKit

abbrev Ent := Int × Bool
def entCells (e : Ent) : List Value := [.int .i64 e.1, .bool e.2]
theorem entCells_length (e : Ent) : (entCells e).length = 2 := rfl
theorem entCells_one (e : Ent) : ∀ u ∈ entCells e, u.oneCell' = true := by
  intro u hu
  simp only [entCells, List.mem_cons, List.not_mem_nil, or_false] at hu
  rcases hu with rfl | rfl <;> rfl

/-- a slice value's address has the cells of these entries behind it -/
def Ents (w : World) (A : Option Addr) (l : List Ent) : Prop := Cells w A (l.flatMap entCells)

section
variable {w w' : World} {A : Option Addr} {l : List Ent}
theorem ents_len (l : List Ent) : (l.flatMap entCells).length = l.length * 2 := flat_length entCells 2 entCells_length l
theorem Ents.nil : Ents w A [] := Cells.nil
theorem Ents.below (h : Ents w A l) (hb : Below w.heap.size w w') : Ents w' A l := Cells.below h hb
theorem Ents.take (h : Ents w A l) (n : Nat) : Ents w A (l.take n) := by
  unfold Ents
  rw [flat_take entCells 2 entCells_length]
  exact Cells.take h _
theorem Ents.at_ (h : Ents w A l) (h0 : 0 < l.length) : ∃ b off, A = some ⟨b, off, none⟩ ∧ b < w.heap.size ∧
    ∀ k s c, l[k]? = some (s, c) → w.cell? ⟨b, off + k * 2, none⟩ = some (.int .i64 s) ∧ w.cell? ⟨b, off + k * 2 + 1, none⟩ = some (.bool c) := by
  obtain ⟨b, off, e, hb, hc⟩ := Cells.at_ h (by rw [ents_len]; omega)
  refine ⟨b, off, e, hb, fun k s c hk => ?_⟩
  have h1 := hc (k * 2 + 0) (.int .i64 s) (by rw [flat_get entCells 2 entCells_length l k 0 (by omega), hk]; rfl)
  have h2 := hc (k * 2 + 1) (.bool c) (by rw [flat_get entCells 2 entCells_length l k 1 (by omega), hk]; rfl)
  exact ⟨by simpa using h1, by rw [Nat.add_assoc]; exact h2⟩
end

def area (l : List Ent) : Int := match l.getLast? with | none => 0 | some (s, _) => s

def idx (v : Ent) : List Ent → Int
  | [] => -1
  | a :: l => if a = v then 0 else if idx v l < 0 then -1 else idx v l + 1

theorem idx_none (v : Ent) (l : List Ent) (h : ∀ j, j < l.length → l[j]? ≠ some v) : idx v l = -1 := by
  induction l with
  | nil => rfl
  | cons a l ih =>
    have h0 := h 0 (by simp)
    have : a ≠ v := by simpa using h0
    rw [idx, if_neg this, ih (fun j hj => by simpa using h (j + 1) (by simp; omega))]
    rfl

theorem idx_some (v : Ent) (l : List Ent) (k : Nat) (hk : l[k]? = some v) (h : ∀ j, j < k → l[j]? ≠ some v) : idx v l = k := by
  induction l generalizing k with
  | nil => simp at hk
  | cons a l ih =>
    cases k with
    | zero => simp at hk; simp [idx, hk]
    | succ k =>
      have h0 := h 0 (by omega)
      have : a ≠ v := by simpa using h0
      have e := ih k (by simpa using hk) (fun j hj => by simpa using h (j + 1) (by omega))
      rw [idx, if_neg this, e, if_neg (by omega)]
      omega

theorem idx_cases (v : Ent) (l : List Ent) : (idx v l = -1 ∧ v ∉ l) ∨ ∃ k : Nat, k < l.length ∧ idx v l = k ∧ l[k]? = some v ∧ ∀ j, j < k → l[j]? ≠ some v := by
  induction l with
  | nil => exact .inl ⟨rfl, by simp⟩
  | cons a l ih =>
    by_cases h : a = v
    · exact .inr ⟨0, by simp, by simp [idx, h], by simp [h], by omega⟩
    · rcases ih with ⟨e, hn⟩ | ⟨k, hk, e, hv, hj⟩
      · exact .inl ⟨by rw [idx, if_neg h, e]; rfl, by simp [hn, Ne.symm h]⟩
      · refine .inr ⟨k + 1, by simp; omega, by rw [idx, if_neg h, e, if_neg (by omega)]; omega, by simpa using hv, fun j hj' => ?_⟩
        cases j with
        | zero => simpa using h
        | succ j => simpa using hj j (by omega)

theorem idx_bd (v : Ent) (l : List Ent) : -1 ≤ idx v l ∧ idx v l ≤ l.length := by
  rcases idx_cases v l with ⟨e, _⟩ | ⟨k, hk, e, _⟩ <;> rw [e] <;> constructor <;> omega

def reach (l : List Ent) (s : Int) : Bool := s == 0 || decide (0 ≤ idx (s, true) l)
def par (l : List Ent) (s : Int) : Int := if idx (s, true) l < 0 then -1 else area (l.take (idx (s, true) l).toNat)
def up (l : List Ent) (s : Int) : Nat → Int → Bool
  | 0, _ => false
  | n + 1, b => b == s || up l s n (par l b)
def above (l : List Ent) (s b : Int) : Bool := s == 0 || up l s 9 b
def push (l : List Ent) (e : Ent) : List Ent × Int := if 6 ≤ l.length then ([], 24) else (l ++ [e], 0)
def pop (l : List Ent) : List Ent × Ent × Int := match l.getLast? with | none => ([], (0, false), 23) | some e => (l.dropLast, e, 0)

theorem up_ref (l : List Ent) (s : Int) (n : Nat) (b : Int) : up l s (n + 1) b = (b == s || up l s n (par l b)) := rfl

end Go.Proofs.Ytconieenkeajiaa
