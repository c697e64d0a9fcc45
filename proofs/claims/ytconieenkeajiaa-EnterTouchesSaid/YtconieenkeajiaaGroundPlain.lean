/- Free extents, in plain terms: an extent is where it begins and how great it is. No program in sight. -/
import Derived.Test.YtconieenkeajiaaLib
namespace Go.Proofs.Ytconieenkeajiaa
open Go.RowKit

abbrev Ext := Int × Int
def extCells (e : Ext) : List Value := [.int .i64 e.1, .int .i64 e.2]
theorem extCells_length (e : Ext) : (extCells e).length = 2 := rfl
theorem extCells_one (e : Ext) : ∀ u ∈ extCells e, u.oneCell' = true := by
  intro u hu
  simp only [extCells, List.mem_cons, List.not_mem_nil, or_false] at hu
  rcases hu with rfl | rfl <;> rfl
theorem exts_len (l : List Ext) : (l.flatMap extCells).length = l.length * 2 := flat_length extCells 2 extCells_length l
theorem exts_one (l : List Ext) : ∀ u ∈ l.flatMap extCells, u.oneCell' = true := flat_one extCells extCells_one l

/-- in order, apart, of whole words, from lo on, and ended by hi -/
def Canon (lo hi : Int) : List Ext → Prop
  | [] => True
  | x :: r => lo ≤ x.1 ∧ 0 < x.2 ∧ x.1 % 8 = 0 ∧ x.2 % 8 = 0 ∧ x.1 + x.2 ≤ hi ∧ Canon (x.1 + x.2 + 1) hi r
/-- what is covered -/
def cov (l : List Ext) (j : Int) : Prop := ∃ x ∈ l, x.1 ≤ j ∧ j < x.1 + x.2

theorem cov_nil (j : Int) : ¬ cov [] j := by rintro ⟨x, hx, _⟩; cases hx
theorem cov_cons (x : Ext) (l : List Ext) (j : Int) : cov (x :: l) j ↔ (x.1 ≤ j ∧ j < x.1 + x.2) ∨ cov l j := by
  constructor
  · rintro ⟨y, hy, h⟩
    rcases List.mem_cons.1 hy with rfl | hy
    · exact .inl h
    · exact .inr ⟨y, hy, h⟩
  · rintro (h | ⟨y, hy, h⟩)
    · exact ⟨x, by simp, h⟩
    · exact ⟨y, by simp [hy], h⟩
theorem cov_append (l m : List Ext) (j : Int) : cov (l ++ m) j ↔ cov l j ∨ cov m j := by
  induction l with
  | nil => simp [cov_nil]
  | cons x l ih => rw [List.cons_append, cov_cons, cov_cons, ih, or_assoc]

theorem Canon.mono {lo lo' hi : Int} {l : List Ext} (h : Canon lo hi l) (hl : lo' ≤ lo) : Canon lo' hi l := by
  cases l with
  | nil => trivial
  | cons x r => exact ⟨by have := h.1; omega, h.2⟩
theorem Canon.low {lo hi : Int} {l : List Ext} (h : Canon lo hi l) {j : Int} (hj : cov l j) : lo ≤ j ∧ j < hi := by
  induction l generalizing lo with
  | nil => exact absurd hj (cov_nil j)
  | cons x r ih =>
    obtain ⟨h1, h2, _, _, h5, h6⟩ := h
    rcases (cov_cons x r j).1 hj with ⟨a, b⟩ | hj
    · omega
    · have := ih h6 hj
      omega
theorem Canon.mem {lo hi : Int} {l : List Ext} (h : Canon lo hi l) {x : Ext} (hx : x ∈ l) : lo ≤ x.1 ∧ 0 < x.2 ∧ x.1 % 8 = 0 ∧ x.2 % 8 = 0 ∧ x.1 + x.2 ≤ hi := by
  induction l generalizing lo with
  | nil => cases hx
  | cons y r ih =>
    obtain ⟨h1, h2, h3, h4, h5, h6⟩ := h
    rcases List.mem_cons.1 hx with rfl | hx
    · exact ⟨h1, h2, h3, h4, h5⟩
    · obtain ⟨k1, k2⟩ := ih h6 hx
      exact ⟨by omega, k2⟩
theorem Canon.len {lo hi : Int} {l : List Ext} (h : Canon lo hi l) (hlo : lo ≤ hi) : (l.length : Int) ≤ hi - lo := by
  induction l generalizing lo with
  | nil => simp; omega
  | cons x r ih =>
    obtain ⟨h1, h2, h3, h4, h5, h6⟩ := h
    rw [List.length_cons]
    by_cases he : x.1 + x.2 + 1 ≤ hi
    · have := ih h6 he
      omega
    · cases r with
      | nil => simp; omega
      | cons y s =>
        have h61 := h6.1
        have h62 := h6.2.1
        have h63 := h6.2.2.2.2.1
        omega

/-- of what is covered there is one row -/
theorem Canon.unique {lo lo' hi : Int} {l m : List Ext} (h : Canon lo hi l) (k : Canon lo' hi m) (hc : ∀ j, cov l j ↔ cov m j) : l = m := by
  induction l generalizing lo lo' m with
  | nil =>
    cases m with
    | nil => rfl
    | cons y s => exact absurd ((hc y.1).2 ((cov_cons _ _ _).2 (.inl ⟨by omega, by have := k.2.1; omega⟩))) (cov_nil _)
  | cons x r ih =>
    cases m with
    | nil => exact absurd ((hc x.1).1 ((cov_cons _ _ _).2 (.inl ⟨by omega, by have := h.2.1; omega⟩))) (cov_nil _)
    | cons y s =>
      obtain ⟨h1, h2, h3, h4, h5, h6⟩ := h
      obtain ⟨k1, k2, k3, k4, k5, k6⟩ := k
      have e1 : x.1 = y.1 := by
        have a := (hc x.1).1 ((cov_cons _ _ _).2 (.inl ⟨by omega, by omega⟩))
        have b := (hc y.1).2 ((cov_cons _ _ _).2 (.inl ⟨by omega, by omega⟩))
        rcases (cov_cons _ _ _).1 a with a | a
        · rcases (cov_cons _ _ _).1 b with b | b
          · omega
          · have := h6.low b
            omega
        · have := k6.low a
          rcases (cov_cons _ _ _).1 b with b | b
          · omega
          · have := h6.low b
            omega
      have e2 : x.2 = y.2 := by
        have end1 : ¬ cov (x :: r) (x.1 + x.2) := by
          intro a
          rcases (cov_cons _ _ _).1 a with a | a
          · omega
          · have := h6.low a
            omega
        have end2 : ¬ cov (y :: s) (y.1 + y.2) := by
          intro a
          rcases (cov_cons _ _ _).1 a with a | a
          · omega
          · have := k6.low a
            omega
        rcases Int.lt_trichotomy x.2 y.2 with g | g | g
        · exact absurd ((hc _).2 ((cov_cons _ _ _).2 (.inl ⟨by omega, by omega⟩))) end1
        · exact g
        · exact absurd ((hc _).1 ((cov_cons _ _ _).2 (.inl ⟨by omega, by omega⟩))) end2
      have e : x = y := Prod.ext e1 e2
      subst e
      rw [ih h6 k6 (fun j => ?_)]
      have := hc j
      rw [cov_cons, cov_cons] at this
      constructor
      · intro a
        have a1 := h6.low a
        rcases this.1 (.inr a) with b | b
        · omega
        · exact b
      · intro a
        have a1 := k6.low a
        rcases this.2 (.inr a) with b | b
        · omega
        · exact b

/-- joined from two, the second one behind the first -/
theorem Canon.append {lo mid hi : Int} {l m : List Ext} (h : Canon lo hi l) (k : Canon mid hi m) (hl : lo ≤ mid) (hm : ∀ x ∈ l, x.1 + x.2 < mid) : Canon lo hi (l ++ m) := by
  induction l generalizing lo with
  | nil => exact k.mono hl
  | cons x r ih =>
    obtain ⟨h1, h2, h3, h4, h5, h6⟩ := h
    exact ⟨h1, h2, h3, h4, h5, ih h6 (by have := hm x (by simp); omega) (fun y hy => hm y (by simp [hy]))⟩
theorem Canon.split {lo hi : Int} {l m : List Ext} (h : Canon lo hi (l ++ m)) : Canon lo hi l ∧ Canon lo hi m ∧ ∀ x ∈ l, ∀ y ∈ m, x.1 + x.2 < y.1 := by
  induction l generalizing lo with
  | nil => exact ⟨trivial, h, fun x hx => by cases hx⟩
  | cons x r ih =>
    obtain ⟨h1, h2, h3, h4, h5, h6⟩ := h
    obtain ⟨k1, k2, k3⟩ := ih h6
    refine ⟨⟨h1, h2, h3, h4, h5, k1⟩, k2.mono (by omega), fun z hz y hy => ?_⟩
    rcases List.mem_cons.1 hz with rfl | hz
    · have := (k2.mem hy).1
      omega
    · exact k3 z hz y hy

/- carve -/
def carveAt (n : Int) (l : List Ext) : Option Nat := l.findIdx? fun x => decide (n ≤ x.2)
def carveRest (n : Int) (i : Nat) (x : Ext) (l : List Ext) : List Ext := if x.2 = n then l.eraseIdx i else l.set i (x.1 + n, x.2 - n)
/- give -/
def giveAt (a : Int) (l : List Ext) : Option Nat := l.findIdx? fun x => decide (a < x.1 + x.2)
def join1 (out : List Ext) (x : Ext) : List Ext :=
  match out.getLast? with
  | none => [x]
  | some y => if y.1 + y.2 = x.1 then out.dropLast ++ [(y.1, y.2 + x.2)] else out ++ [x]
def joins (l : List Ext) : List Ext := l.foldl join1 []
def giveBad (f e a n : Int) : Bool := decide (n < 1) || decide (n % 8 ≠ 0) || decide (a % 8 ≠ 0) || decide (a < f) || decide (e ≤ a) || decide (e - a < n)

theorem joins_snoc (l : List Ext) (x : Ext) : joins (l ++ [x]) = join1 (joins l) x := by simp [joins]
theorem join1_len (out : List Ext) (x : Ext) : (join1 out x).length ≤ out.length + 1 := by
  unfold join1
  split
  · simp
  · split
    · simp
    · simp
theorem joins_len (l : List Ext) : (joins l).length ≤ l.length := by
  suffices ∀ l out, (List.foldl join1 out l).length ≤ out.length + l.length by simpa [joins] using this l []
  intro l
  induction l with
  | nil => simp
  | cons x l ih =>
    intro out
    have h1 := ih (join1 out x)
    have h2 := join1_len out x
    rw [List.foldl_cons, List.length_cons]
    omega

/-- one more behind all that there are: it is joined, or stands by itself -/
theorem join1_fit {lo hi : Int} {out : List Ext} {x : Ext} (h : Canon lo hi out) (hx : lo ≤ x.1 ∧ 0 < x.2 ∧ x.1 % 8 = 0 ∧ x.2 % 8 = 0 ∧ x.1 + x.2 ≤ hi) (hb : ∀ y ∈ out, y.1 + y.2 ≤ x.1) :
    Canon lo hi (join1 out x) ∧ (∀ j, cov (join1 out x) j ↔ cov out j ∨ (x.1 ≤ j ∧ j < x.1 + x.2)) ∧ ∀ y ∈ join1 out x, y.1 + y.2 ≤ x.1 + x.2 := by
  rcases List.eq_nil_or_concat out with rfl | ⟨o, y, rfl⟩
  · refine ⟨⟨hx.1, hx.2.1, hx.2.2.1, hx.2.2.2.1, hx.2.2.2.2, trivial⟩, fun j => ?_, ?_⟩
    · show cov [x] j ↔ _
      rw [cov_cons]
      simp [cov_nil]
    · intro y hy
      simp [join1] at hy
      subst hy
      omega
  · rw [show o.concat y = o ++ [y] by simp] at *
    obtain ⟨h1, h2, h3⟩ := h.split
    have hy := h2.mem (x := y) (by simp)
    have hyx := hb y (by simp)
    unfold join1
    simp only [List.getLast?_append, List.getLast?_singleton, Option.some_or, List.dropLast_concat]
    split
    · rename_i he
      refine ⟨h1.append (mid := y.1) (m := [(y.1, y.2 + x.2)]) ⟨by simp, by simp; omega, by simpa using hy.2.2.1, by simp; omega, by simp; omega, trivial⟩ hy.1 (fun z hz => h3 z hz y (by simp)), fun j => ?_, ?_⟩
      · rw [cov_append, cov_append, cov_cons, cov_cons]
        simp only [cov_nil, or_false]
        rw [or_assoc]
        constructor
        · rintro (a | a)
          · exact .inl a
          · right; omega
        · rintro (a | a)
          · exact .inl a
          · right; omega
      · intro z hz
        rcases List.mem_append.1 hz with hz | hz
        · have := hb z (by simp [hz])
          omega
        · simp at hz
          subst hz
          simp
          omega
    · rename_i he
      refine ⟨h.append (mid := x.1) ⟨by simp, hx.2.1, hx.2.2.1, hx.2.2.2.1, hx.2.2.2.2, trivial⟩ hx.1 (fun z hz => ?_), fun j => ?_, ?_⟩
      · rcases List.mem_append.1 hz with hz | hz
        · have := h3 z hz y (by simp)
          have := hb z (by simp [hz])
          omega
        · simp at hz
          subst hz
          omega
      · rw [cov_append, cov_cons]
        simp [cov_nil]
      · intro z hz
        rcases List.mem_append.1 hz with hz | hz
        · have := hb z (by simpa using hz)
          omega
        · simp at hz
          subst hz
          omega

end Go.Proofs.Ytconieenkeajiaa
