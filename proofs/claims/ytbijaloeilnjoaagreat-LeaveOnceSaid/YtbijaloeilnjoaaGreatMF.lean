/- Free extents, in plain terms: an extent is where it begins and how great it is. No program in sight. What is carved and given back, in plain terms. No program in sight. The walks of num.Within, slices.Clone at extents, and slices.IndexFunc at ground's two searches. The walks of slices.IndexFunc at ground's two searches; (*Ground).Free; New. The walks of ground.New, (*Ground).Free and (*Ground).Carve. -/
import Derived.Test.YtbijaloeilnjoaaGreatMA
import Derived.Test.YtbijaloeilnjoaaGreatNum
import Derived.Deep.RegionHeld3
import Derived.BigGuardPart
namespace Go.Proofs.YtbijaloeilnjoaaGreat
open Go.RowKit

abbrev Ext := Int × Int
def extCells (e : Ext) : List Value := [.int .i64 e.1, .int .i64 e.2]
theorem extCells_length (e : Ext) : (extCells e).length = 2 := rfl
theorem extCells_one (e : Ext) : ∀ u ∈ extCells e, u.oneCell' = true := by
 intro u hu
 simp only [extCells, List.mem_cons, List.not_mem_nil, or_false] at hu
 rcases hu with rfl | rfl <;> rfl
theorem exts_len (l : List Ext) : (l.flatMap extCells).length = l.length * 2 := flat_length extCells 2 extCells_length l
theorem exts_one (l : List Ext) : ∀ u ∈ l.flatMap extCells, u.oneCell' = true := flat_one extCells extCells_one l

/-- in order, apart, of whole words, from lo on, and ended by hi -/
def Canon (lo hi : Int) : List Ext → Prop
 | [] => True
 | x :: r => lo ≤ x.1 ∧ 0 < x.2 ∧ x.1 % 8 = 0 ∧ x.2 % 8 = 0 ∧ x.1 + x.2 ≤ hi ∧ Canon (x.1 + x.2 + 1) hi r
/-- what is covered -/
def cov (l : List Ext) (j : Int) : Prop := ∃ x ∈ l, x.1 ≤ j ∧ j < x.1 + x.2

theorem cov_nil (j : Int) : ¬ cov [] j := by rintro ⟨x, hx, _⟩; cases hx
theorem cov_cons (x : Ext) (l : List Ext) (j : Int) : cov (x :: l) j ↔ (x.1 ≤ j ∧ j < x.1 + x.2) ∨ cov l j := by
 constructor
 ·rintro ⟨y, hy, h⟩
  rcases List.mem_cons.1 hy with rfl | hy
  ·exact .inl h
  ·exact .inr ⟨y, hy, h⟩
 ·rintro (h | ⟨y, hy, h⟩)
  ·exact ⟨x, by simp, h⟩
  ·exact ⟨y, by simp [hy], h⟩
theorem cov_append (l m : List Ext) (j : Int) : cov (l ++ m) j ↔ cov l j ∨ cov m j := by
 induction l with
 | nil => simp [cov_nil]
 | cons x l ih => rw [List.cons_append, cov_cons, cov_cons, ih, or_assoc]

theorem Canon.mono {lo lo' hi : Int} {l : List Ext} (h : Canon lo hi l) (hl : lo' ≤ lo) : Canon lo' hi l := by
 cases l with
 | nil => trivial
 | cons x r => exact ⟨by have := h.1; omega, h.2⟩
theorem Canon.low {lo hi : Int} {l : List Ext} (h : Canon lo hi l) {j : Int} (hj : cov l j) : lo ≤ j ∧ j < hi := by
 induction l generalizing lo with
 | nil => exact absurd hj (cov_nil j)
 | cons x r ih =>
  obtain ⟨h1, h2, _, _, h5, h6⟩ := h
  rcases (cov_cons x r j).1 hj with ⟨a, b⟩ | hj
  ·omega
  ·have := ih h6 hj
   omega
theorem Canon.mem {lo hi : Int} {l : List Ext} (h : Canon lo hi l) {x : Ext} (hx : x ∈ l) : lo ≤ x.1 ∧ 0 < x.2 ∧ x.1 % 8 = 0 ∧ x.2 % 8 = 0 ∧ x.1 + x.2 ≤ hi := by
 induction l generalizing lo with
 | nil => cases hx
 | cons y r ih =>
  obtain ⟨h1, h2, h3, h4, h5, h6⟩ := h
  rcases List.mem_cons.1 hx with rfl | hx
  ·exact ⟨h1, h2, h3, h4, h5⟩
  ·obtain ⟨k1, k2⟩ := ih h6 hx
   exact ⟨by omega, k2⟩
theorem Canon.len {lo hi : Int} {l : List Ext} (h : Canon lo hi l) (hlo : lo ≤ hi) : (l.length : Int) ≤ hi - lo := by
 induction l generalizing lo with
 | nil => simp; omega
 | cons x r ih =>
  obtain ⟨h1, h2, h3, h4, h5, h6⟩ := h
  rw [List.length_cons]
  by_cases he : x.1 + x.2 + 1 ≤ hi
  ·have := ih h6 he
   omega
  ·cases r with
   | nil => simp; omega
   | cons y s =>
    have h61 := h6.1
    have h62 := h6.2.1
    have h63 := h6.2.2.2.2.1
    omega

/-- of what is covered there is one row -/
theorem Canon.unique {lo lo' hi : Int} {l m : List Ext} (h : Canon lo hi l) (k : Canon lo' hi m) (hc : ∀ j, cov l j ↔ cov m j) : l = m := by
 induction l generalizing lo lo' m with
 | nil =>
  cases m with
  | nil => rfl
  | cons y s => exact absurd ((hc y.1).2 ((cov_cons _ _ _).2 (.inl ⟨by omega, by have := k.2.1; omega⟩))) (cov_nil _)
 | cons x r ih =>
  cases m with
  | nil => exact absurd ((hc x.1).1 ((cov_cons _ _ _).2 (.inl ⟨by omega, by have := h.2.1; omega⟩))) (cov_nil _)
  | cons y s =>
   obtain ⟨h1, h2, h3, h4, h5, h6⟩ := h
   obtain ⟨k1, k2, k3, k4, k5, k6⟩ := k
   have e1 : x.1 = y.1 := by
    have a := (hc x.1).1 ((cov_cons _ _ _).2 (.inl ⟨by omega, by omega⟩))
    have b := (hc y.1).2 ((cov_cons _ _ _).2 (.inl ⟨by omega, by omega⟩))
    rcases (cov_cons _ _ _).1 a with a | a
    ·rcases (cov_cons _ _ _).1 b with b | b
     ·omega
     ·have := h6.low b
      omega
    ·have := k6.low a
     rcases (cov_cons _ _ _).1 b with b | b
     ·omega
     ·have := h6.low b
      omega
   have e2 : x.2 = y.2 := by
    have end1 : ¬ cov (x :: r) (x.1 + x.2) := by
     intro a
     rcases (cov_cons _ _ _).1 a with a | a
     ·omega
     ·have := h6.low a
      omega
    have end2 : ¬ cov (y :: s) (y.1 + y.2) := by
     intro a
     rcases (cov_cons _ _ _).1 a with a | a
     ·omega
     ·have := k6.low a
      omega
    rcases Int.lt_trichotomy x.2 y.2 with g | g | g
    ·exact absurd ((hc _).2 ((cov_cons _ _ _).2 (.inl ⟨by omega, by omega⟩))) end1
    ·exact g
    ·exact absurd ((hc _).1 ((cov_cons _ _ _).2 (.inl ⟨by omega, by omega⟩))) end2
   have e : x = y := Prod.ext e1 e2
   subst e
   rw [ih h6 k6 (fun j => ?_)]
   have := hc j
   rw [cov_cons, cov_cons] at this
   constructor
   ·intro a
    have a1 := h6.low a
    rcases this.1 (.inr a) with b | b
    ·omega
    ·exact b
   ·intro a
    have a1 := k6.low a
    rcases this.2 (.inr a) with b | b
    ·omega
    ·exact b

/-- joined from two, the second one behind the first -/
theorem Canon.append {lo mid hi : Int} {l m : List Ext} (h : Canon lo hi l) (k : Canon mid hi m) (hl : lo ≤ mid) (hm : ∀ x ∈ l, x.1 + x.2 < mid) : Canon lo hi (l ++ m) := by
 induction l generalizing lo with
 | nil => exact k.mono hl
 | cons x r ih =>
  obtain ⟨h1, h2, h3, h4, h5, h6⟩ := h
  exact ⟨h1, h2, h3, h4, h5, ih h6 (by have := hm x (by simp); omega) (fun y hy => hm y (by simp [hy]))⟩
theorem Canon.split {lo hi : Int} {l m : List Ext} (h : Canon lo hi (l ++ m)) : Canon lo hi l ∧ Canon lo hi m ∧ ∀ x ∈ l, ∀ y ∈ m, x.1 + x.2 < y.1 := by
 induction l generalizing lo with
 | nil => exact ⟨trivial, h, fun x hx => by cases hx⟩
 | cons x r ih =>
  obtain ⟨h1, h2, h3, h4, h5, h6⟩ := h
  obtain ⟨k1, k2, k3⟩ := ih h6
  refine ⟨⟨h1, h2, h3, h4, h5, k1⟩, k2.mono (by omega), fun z hz y hy => ?_⟩
  rcases List.mem_cons.1 hz with rfl | hz
  ·have := (k2.mem hy).1
   omega
  ·exact k3 z hz y hy

/- carve -/
def carveAt (n : Int) (l : List Ext) : Option Nat := l.findIdx? fun x => decide (n ≤ x.2)
def carveRest (n : Int) (i : Nat) (x : Ext) (l : List Ext) : List Ext := if x.2 = n then l.eraseIdx i else l.set i (x.1 + n, x.2 - n)
/- give -/
def giveAt (a : Int) (l : List Ext) : Option Nat := l.findIdx? fun x => decide (a < x.1 + x.2)
def join1 (out : List Ext) (x : Ext) : List Ext :=
 match out.getLast? with
 | none => [x]
 | some y => if y.1 + y.2 = x.1 then out.dropLast ++ [(y.1, y.2 + x.2)] else out ++ [x]
def joins (l : List Ext) : List Ext := l.foldl join1 []
def giveBad (f e a n : Int) : Bool := decide (n < 1) || decide (n % 8 ≠ 0) || decide (a % 8 ≠ 0) || decide (a < f) || decide (e ≤ a) || decide (e - a < n)

theorem joins_snoc (l : List Ext) (x : Ext) : joins (l ++ [x]) = join1 (joins l) x := by simp [joins]

/-- one more behind all that there are: it is joined, or stands by itself -/
theorem join1_fit {lo hi : Int} {out : List Ext} {x : Ext} (h : Canon lo hi out) (hx : lo ≤ x.1 ∧ 0 < x.2 ∧ x.1 % 8 = 0 ∧ x.2 % 8 = 0 ∧ x.1 + x.2 ≤ hi) (hb : ∀ y ∈ out, y.1 + y.2 ≤ x.1) :
  Canon lo hi (join1 out x) ∧ (∀ j, cov (join1 out x) j ↔ cov out j ∨ (x.1 ≤ j ∧ j < x.1 + x.2)) ∧ ∀ y ∈ join1 out x, y.1 + y.2 ≤ x.1 + x.2 := by
 rcases List.eq_nil_or_concat out with rfl | ⟨o, y, rfl⟩
 ·refine ⟨⟨hx.1, hx.2.1, hx.2.2.1, hx.2.2.2.1, hx.2.2.2.2, trivial⟩, fun j => ?_, ?_⟩
  ·show cov [x] j ↔ _
   rw [cov_cons]
   simp [cov_nil]
  ·intro y hy
   simp [join1] at hy
   subst hy
   omega
 ·rw [show o.concat y = o ++ [y] by simp] at *
  obtain ⟨h1, h2, h3⟩ := h.split
  have hy := h2.mem (x := y) (by simp)
  have hyx := hb y (by simp)
  unfold join1
  simp only [List.getLast?_append, List.getLast?_singleton, Option.some_or, List.dropLast_concat]
  split
  ·rename_i he
   refine ⟨h1.append (mid := y.1) (m := [(y.1, y.2 + x.2)]) ⟨by simp, by simp; omega, by simpa using hy.2.2.1, by simp; omega, by simp; omega, trivial⟩ hy.1 (fun z hz => h3 z hz y (by simp)), fun j => ?_, ?_⟩
   ·rw [cov_append, cov_append, cov_cons, cov_cons]
    simp only [cov_nil, or_false]
    rw [or_assoc]
    constructor
    ·rintro (a | a)
     ·exact .inl a
     ·right; omega
    ·rintro (a | a)
     ·exact .inl a
     ·right; omega
   ·intro z hz
    rcases List.mem_append.1 hz with hz | hz
    ·have := hb z (by simp [hz])
     omega
    ·simp at hz
     subst hz
     simp
     omega
  ·rename_i he
   refine ⟨h.append (mid := x.1) ⟨by simp, hx.2.1, hx.2.2.1, hx.2.2.2.1, hx.2.2.2.2, trivial⟩ hx.1 (fun z hz => ?_), fun j => ?_, ?_⟩
   ·rcases List.mem_append.1 hz with hz | hz
    ·have := h3 z hz y (by simp)
     have := hb z (by simp [hz])
     omega
    ·simp at hz
     subst hz
     omega
   ·rw [cov_append, cov_cons]
    simp [cov_nil]
   ·intro z hz
    rcases List.mem_append.1 hz with hz | hz
    ·have := hb z (by simpa using hz)
     omega
    ·simp at hz
     subst hz
     omega

end Go.Proofs.YtbijaloeilnjoaaGreat

namespace Go.Proofs.YtbijaloeilnjoaaGreat
open Go.RowKit

def Fits (lo hi : Int) (x : Ext) : Prop := lo ≤ x.1 ∧ 0 < x.2 ∧ x.1 % 8 = 0 ∧ x.2 % 8 = 0 ∧ x.1 + x.2 ≤ hi

theorem joins_fit {lo hi : Int} (l : List Ext) (h : ∀ x ∈ l, Fits lo hi x) (hp : l.Pairwise fun x y => x.1 + x.2 ≤ y.1) :
  Canon lo hi (joins l) ∧ (∀ j, cov (joins l) j ↔ cov l j) ∧ ∀ b, (∀ x ∈ l, x.1 + x.2 ≤ b) → ∀ y ∈ joins l, y.1 + y.2 ≤ b := by
 induction hn : l.length generalizing l with
 | zero =>
  obtain rfl := List.eq_nil_of_length_eq_zero hn
  exact ⟨trivial, fun j => Iff.rfl, fun b _ y hy => by cases hy⟩
 | succ n ih =>
  rcases List.eq_nil_or_concat l with rfl | ⟨m, x, rfl⟩
  ·simp at hn
  ·rw [show m.concat x = m ++ [x] by simp] at *
   rw [List.pairwise_append] at hp
   obtain ⟨h1, h2, h3⟩ := ih m (fun y hy => h y (by simp [hy])) hp.1 (by simpa using hn)
   have hx := h x (by simp)
   obtain ⟨k1, k2, k3⟩ := join1_fit h1 hx (h3 x.1 (fun y hy => hp.2.2 y hy x (by simp)))
   rw [joins_snoc]
   refine ⟨k1, fun j => ?_, fun b hb y hy => ?_⟩
   ·rw [k2, h2, cov_append, cov_cons]
    simp [cov_nil]
   ·have := k3 y hy
    have := hb x (by simp)
    omega

theorem Canon.pair {lo hi : Int} {l : List Ext} (h : Canon lo hi l) : l.Pairwise fun x y => x.1 + x.2 ≤ y.1 := by
 induction l generalizing lo with
 | nil => exact List.Pairwise.nil
 | cons x r ih =>
  obtain ⟨h1, h2, h3, h4, h5, h6⟩ := h
  exact List.Pairwise.cons (fun y hy => by have := (h6.mem hy).1; omega) (ih h6)

/-- what is found by a search -/
theorem findIdx_some {α : Type} {p : α → Bool} {l : List α} {i : Nat} (h : l.findIdx? p = some i) : ∃ x, l[i]? = some x ∧ i < l.length ∧ p x = true ∧ ∀ j y, j < i → l[j]? = some y → p y = false := by
 induction l generalizing i with
 | nil => simp at h
 | cons a l ih =>
  rw [List.findIdx?_cons] at h
  split at h
  ·rename_i ha
   injection h with h
   subst h
   exact ⟨a, rfl, by simp, ha, by omega⟩
  ·rename_i ha
   cases hf : l.findIdx? p with
   | none => rw [hf] at h; simp at h
   | some k =>
    rw [hf] at h
    simp at h
    subst h
    obtain ⟨x, h1, h2, h3, h4⟩ := ih hf
    refine ⟨x, by simpa using h1, by simp; omega, h3, fun j y hj hy => ?_⟩
    cases j with
    | zero => simp at hy; subst hy; simpa using ha
    | succ j => exact h4 j y (by omega) (by simpa using hy)
theorem findIdx_none {α : Type} {p : α → Bool} {l : List α} (h : l.findIdx? p = none) : ∀ x ∈ l, p x = false := by
 simpa using h
theorem findIdx_mk {α : Type} {p : α → Bool} {l : List α} {i : Nat} {x : α} (h1 : l[i]? = some x) (h2 : p x = true) (h3 : ∀ j y, j < i → l[j]? = some y → p y = false) : l.findIdx? p = some i := by
 cases h : l.findIdx? p with
 | none =>
  have := findIdx_none h x (List.mem_of_getElem? h1)
  rw [h2] at this
  cases this
 | some k =>
  obtain ⟨y, k1, _, k2, k3⟩ := findIdx_some h
  rcases Nat.lt_trichotomy i k with g | g | g
  ·have := k3 i x g h1
   rw [h2] at this
   cases this
  ·rw [g]
  ·have := h3 k y g k1
   rw [k2] at this
   cases this
theorem parted {α : Type} {l : List α} {i : Nat} {x : α} (h : l[i]? = some x) : l = l.take i ++ x :: l.drop (i + 1) := by
 obtain ⟨hi, hx⟩ := List.getElem?_eq_some_iff.1 h
 rw [← hx, ← List.drop_eq_getElem_cons hi, List.take_append_drop]

theorem carveRest_eq (n : Int) {l : List Ext} {i : Nat} {x : Ext} (h : l[i]? = some x) : carveRest n i x l = l.take i ++ ((if x.2 = n then [] else [(x.1 + n, x.2 - n)]) ++ l.drop (i + 1)) := by
 have hi := (List.getElem?_eq_some_iff.1 h).1
 unfold carveRest
 split
 ·rw [List.eraseIdx_eq_take_drop_succ]; simp
 ·rw [List.set_eq_take_append_cons_drop, if_pos hi]; simp

theorem carve_fit {lo hi n : Int} {l : List Ext} {i : Nat} {x : Ext} (h : Canon lo hi l) (hx : l[i]? = some x) (h0 : 0 < n) (h8 : n % 8 = 0) (hn : n ≤ x.2) :
  Canon lo hi (carveRest n i x l) ∧ (∀ j, cov l j ↔ cov (carveRest n i x l) j ∨ (x.1 ≤ j ∧ j < x.1 + n)) ∧ ∀ j, cov (carveRest n i x l) j → ¬ (x.1 ≤ j ∧ j < x.1 + n) := by
 rw [carveRest_eq n hx]
 have hp := parted hx
 generalize l.take i = a at *
 generalize l.drop (i + 1) = b at *
 subst hp
 obtain ⟨h1, h2, h3⟩ := h.split
 have hh := h2
 obtain ⟨g1, g2, g3, g4, g5, g6⟩ := h2
 have hmid : Canon x.1 hi ((if x.2 = n then [] else [(x.1 + n, x.2 - n)]) ++ b) := by
  split
  ·exact g6.mono (by omega)
  ·exact ⟨by simp; omega, by simp; omega, by simp; omega, by simp; omega, by simp; omega, g6.mono (by simp; omega)⟩
 have hm : ∀ j, cov ((if x.2 = n then [] else [(x.1 + n, x.2 - n)]) ++ b) j ↔ (x.1 + n ≤ j ∧ j < x.1 + x.2) ∨ cov b j := by
  intro j
  rw [cov_append]
  split
  ·rename_i e
   simp only [cov_nil, false_or]
   constructor
   ·exact .inr
   ·rintro (⟨a, b⟩ | a)
    ·omega
    ·exact a
  ·rw [cov_cons]
   simp only [cov_nil, or_false]
   constructor
   ·rintro (⟨a, b⟩ | a)
    ·exact .inl ⟨a, by omega⟩
    ·exact .inr a
   ·rintro (⟨a, b⟩ | a)
    ·exact .inl ⟨a, by omega⟩
    ·exact .inr a
 refine ⟨h1.append hmid g1 (fun y hy => h3 y hy x (by simp)), fun j => ?_, fun j hj => ?_⟩
 ·rw [cov_append, cov_append, cov_cons, hm]
  constructor
  ·rintro (a | a | a)
   ·exact .inl (.inl a)
   ·by_cases hj : j < x.1 + n
    ·exact .inr ⟨a.1, hj⟩
    ·exact .inl (.inr (.inl ⟨by omega, a.2⟩))
   ·exact .inl (.inr (.inr a))
  ·rintro ((a | a | a) | a)
   ·exact .inl a
   ·exact .inr (.inl ⟨by omega, a.2⟩)
   ·exact .inr (.inr a)
   ·exact .inr (.inl ⟨a.1, by omega⟩)
 ·rw [cov_append, hm] at hj
  rcases hj with ⟨y, hy, k1, k2⟩ | a | a
  ·have := h3 y hy x (by simp)
   omega
  ·omega
  ·have := g6.low a
   omega

/-- giving back: whether it meets what is free -/
def giveIdx (a : Int) (l : List Ext) : Nat := (giveAt a l).getD l.length
def giveAll (a n : Int) (l : List Ext) : List Ext := l.take (giveIdx a l) ++ (a, n) :: l.drop (giveIdx a l)
def giveMeets (a n : Int) (l : List Ext) : Bool := match l[giveIdx a l]? with | none => false | some x => decide (x.1 < a + n)

theorem giveIdx_low (a : Int) (l : List Ext) : ∀ x ∈ l.take (giveIdx a l), x.1 + x.2 ≤ a := by
 intro x hx
 obtain ⟨j, hj, he⟩ := List.getElem_of_mem hx
 rw [List.length_take] at hj
 have hx' : l[j]? = some x := by
  rw [List.getElem_take] at he
  rw [List.getElem?_eq_getElem (by omega), he]
 unfold giveIdx giveAt at hj
 cases h : l.findIdx? fun x => decide (a < x.1 + x.2) with
 | none =>
  have := findIdx_none h x (List.mem_of_getElem? hx')
  simpa using this
 | some i =>
  rw [h] at hj
  obtain ⟨_, _, _, _, h4⟩ := findIdx_some h
  have := h4 j x (by simp at hj; omega) hx'
  simpa using this
theorem giveIdx_high {a : Int} {l : List Ext} {x : Ext} (h : l[giveIdx a l]? = some x) : a < x.1 + x.2 := by
 unfold giveIdx giveAt at h
 cases hf : l.findIdx? fun x => decide (a < x.1 + x.2) with
 | none =>
  rw [hf] at h
  simp at h
 | some i =>
  rw [hf] at h
  obtain ⟨y, h1, _, h3, _⟩ := findIdx_some hf
  simp at h
  rw [h1] at h
  injection h with h
  subst h
  simpa using h3

theorem give_meets {lo hi a n : Int} {l : List Ext} (h : Canon lo hi l) (hn : 0 < n) : giveMeets a n l = true ↔ ∃ j, a ≤ j ∧ j < a + n ∧ cov l j := by
 unfold giveMeets
 have hlow := giveIdx_low a l
 cases hx : l[giveIdx a l]? with
 | none =>
  have hl : l.length ≤ giveIdx a l := by simpa using hx
  rw [List.take_of_length_le hl] at hlow
  simp only [Bool.false_eq_true, false_iff]
  rintro ⟨j, j1, j2, x, hm, k1, k2⟩
  have := hlow x hm
  omega
 | some x =>
  have hhigh := giveIdx_high hx
  simp only [decide_eq_true_eq]
  have hp := parted hx
  constructor
  ·intro hlt
   have hxm := List.mem_of_getElem? hx
   have := h.mem hxm
   by_cases ha : a ≤ x.1
   ·exact ⟨x.1, ha, hlt, x, hxm, by omega, by omega⟩
   ·exact ⟨a, by omega, by omega, x, hxm, by omega, by omega⟩
  ·rintro ⟨j, j1, j2, y, hm, k1, k2⟩
   rw [hp, List.mem_append] at hm
   rcases hm with hm | hm
   ·have := hlow y hm
    omega
   ·rw [hp] at h
    obtain ⟨_, h2, _⟩ := h.split
    rcases List.mem_cons.1 hm with rfl | hm
    ·omega
    ·have := (h2.2.2.2.2.2.mem hm).1
     have := h2.2.1
     omega

theorem give_high {lo hi a n : Int} {l : List Ext} (h : Canon lo hi l) (hm : giveMeets a n l = false) : ∀ x ∈ l.drop (giveIdx a l), a + n ≤ x.1 := by
 intro x hx
 unfold giveMeets at hm
 cases hy : l[giveIdx a l]? with
 | none =>
  have hl : l.length ≤ giveIdx a l := by simpa using hy
  rw [List.drop_eq_nil_of_le hl] at hx
  cases hx
 | some y =>
  rw [hy] at hm
  simp at hm
  have hp := parted hy
  rw [hp] at h
  obtain ⟨_, h2, _⟩ := h.split
  have hi := (List.getElem?_eq_some_iff.1 hy)
  rw [List.drop_eq_getElem_cons hi.1, hi.2] at hx
  rcases List.mem_cons.1 hx with rfl | hx
  ·omega
  ·have := (h2.2.2.2.2.2.mem hx).1
   have := h2.2.1
   omega
theorem give_fit {lo hi a n : Int} {l : List Ext} (h : Canon lo hi l) (h0 : 0 < n) (h8 : n % 8 = 0) (ha : a % 8 = 0) (hlo : lo ≤ a) (hhi : a + n ≤ hi) (hm : giveMeets a n l = false) :
  Canon lo hi (joins (giveAll a n l)) ∧ ∀ j, cov (joins (giveAll a n l)) j ↔ cov l j ∨ (a ≤ j ∧ j < a + n) := by
 have hlow := giveIdx_low a l
 have hhigh := give_high h hm
 have hsp : l = l.take (giveIdx a l) ++ l.drop (giveIdx a l) := (List.take_append_drop _ _).symm
 have hpw := h.pair
 have hmem := fun x hx => h.mem (x := x) hx
 unfold giveAll
 generalize l.take (giveIdx a l) = u at *
 generalize l.drop (giveIdx a l) = v at *
 subst hsp
 rw [List.pairwise_append] at hpw
 obtain ⟨k1, k2, _⟩ := joins_fit (lo := lo) (hi := hi) (u ++ (a, n) :: v) (fun x hx => by
  rcases List.mem_append.1 hx with hx | hx
  ·exact hmem x (by simp [hx])
  ·rcases List.mem_cons.1 hx with rfl | hx
   ·exact ⟨hlo, h0, ha, h8, hhi⟩
   ·exact hmem x (by simp [hx])) (by
  rw [List.pairwise_append, List.pairwise_cons]
  refine ⟨hpw.1, ⟨fun y hy => hhigh y hy, hpw.2.1⟩, fun x hx y hy => ?_⟩
  rcases List.mem_cons.1 hy with rfl | hy
  ·exact hlow x hx
  ·exact hpw.2.2 x hx y hy)
 refine ⟨k1, fun j => ?_⟩
 rw [k2, cov_append, cov_append, cov_cons]
 constructor
 ·rintro (a | a | a)
  ·exact .inl (.inl a)
  ·exact .inr a
  ·exact .inl (.inr a)
 ·rintro ((a | a) | a)
  ·exact .inl a
  ·exact .inr (.inr a)
  ·exact .inr (.inl a)

end Go.Proofs.YtbijaloeilnjoaaGreat

namespace Go.Proofs.YtbijaloeilnjoaaGreat
open Go.RowKit

theorem infoExt : (Tryz.prog.info? 124).map (fun i => (i.zero, i.size, i.bytes)) = some (some (.agg #[.int .i64 0, .int .i64 0]), 2, 16) := by kernel_rfl

@[go_sem] theorem eqlExtsNil (w : World) (a : Option Addr) (n c n' c' : Nat) : (binOp .eql 163 (.slice a n c) (.slice none n' c')).run Tryz.prog w = .ok (.bool a.isNone) w :=
 Lib.run_eql_slice_nil w _ _ a n c n' c' Tryz.underlying163

abbrev Exts (w : World) (A : Option Addr) (l : List Ext) : Prop := Cells w A (l.flatMap extCells)
abbrev NewExts (w : World) (l : List Ext) (v : Value) (w' : World) : Prop := NewRow w l.length (l.flatMap extCells) v w'
theorem exts_at {w : World} {A : Option Addr} {l : List Ext} (h : Exts w A l) (h0 : 0 < l.length) : ∃ b off, A = some ⟨b, off, none⟩ ∧ b < w.heap.size ∧
  ∀ k x, l[k]? = some x → w.cell? ⟨b, off + k * 2, none⟩ = some (.int .i64 x.1) ∧ w.cell? ⟨b, off + k * 2 + 1, none⟩ = some (.int .i64 x.2) := by
 obtain ⟨b, off, e, hb, hc⟩ := Cells.at_ h (by rw [exts_len]; omega)
 refine ⟨b, off, e, hb, fun k x hk => ?_⟩
 have h1 := hc (k * 2 + 0) (.int .i64 x.1) (by rw [flat_get extCells 2 extCells_length l k 0 (by omega), hk]; rfl)
 have h2 := hc (k * 2 + 1) (.int .i64 x.2) (by rw [flat_get extCells 2 extCells_length l k 1 (by omega), hk]; rfl)
 exact ⟨by simpa using h1, by rw [Nat.add_assoc]; exact h2⟩

set_option maxHeartbeats 400000 in
theorem carve1_any (x : Ext) (B : Nat) (n : Int) (w : World) (hB : w.cell? ⟨B, 0, none⟩ = some (.int .i64 n)) :
  Calls Tryz.prog 120 #[.agg #[.int .i64 x.1, .int .i64 x.2], .pointer (some ⟨B, 0, none⟩)] w fun e w' => e = .returned (.bool (decide (n ≤ x.2))) ∧ Below w.heap.size w w' := by
 have hlt := lt_of_cell hB
 go_enter Tryz.func120, Tryz.ntmps120
 go_wp2
 go_ret
 exact ⟨rfl, by go_grown⟩


end Go.Proofs.YtbijaloeilnjoaaGreat

namespace Go.Proofs.YtbijaloeilnjoaaGreat
open Go.RowKit

def idxI : Option Nat → Int
 | none => -1
 | some i => (i : Nat)

theorem old_cell {w w' : World} (h : Below w.heap.size w w') {p : Addr} {v : Value} (hv : w.cell? p = some v) : w'.cell? p = some v :=
 (h.cell (World.block_lt_of_cell? w p hv)).trans hv

set_option maxHeartbeats 400000 in
theorem find_carve (A : Option Addr) (c : Nat) (l : List Ext) (B : Nat) (n : Int) (w : World) (hl : l.length ≤ 1048576) (he : Exts w A l) (hB : w.cell? ⟨B, 0, none⟩ = some (.int .i64 n)) :
  Calls Tryz.prog 119 #[.slice A l.length c, .func (.func 120) #[] #[.pointer (some ⟨B, 0, none⟩)]] w
   fun e w' => e = .returned (.int .i64 (idxI (carveAt n l))) ∧ Below w.heap.size w w' := by
 have HB := Lib.hid hB
 clear hB
 go_enter Tryz.func119, Tryz.ntmps119
 go_wp2
 go_loopw [5, 8] (fun _ t wr => ∃ k : Nat, k ≤ l.length ∧ t = .int .i64 k ∧ (∀ j y, j < k → l[j]? = some y → (fun x : Ext => decide (n ≤ x.2)) y = false) ∧ Below w.heap.size w wr)
  (fun _ t _ => l.length - (intOf t).toNat)
 case atStart => exact ⟨0, Nat.zero_le _, rfl, by omega, Below.refl _ _⟩
 case round =>
  obtain ⟨k, hk, rfl, hn, hb⟩ := hrel
  have Hn := Lib.hid hn
  clear hn
  by_cases hlt : k < l.length
  ·obtain ⟨b, off, rfl, hbl, hc⟩ := exts_at he (by omega)
   obtain ⟨x, hv⟩ : ∃ x, l[k]? = some x := ⟨_, List.getElem?_eq_getElem hlt⟩
   obtain ⟨h0, h1⟩ := hc k x hv
   replace h0 := old_cell hb h0
   replace h1 := old_cell hb h1
   have hB := old_cell hb HB.out
   
   have Hv := Lib.hid hv
   clear hv hc he 
   cases hp : decide (n ≤ x.2) with
   | true =>
    go_wp2_with (go_at_call 120; refine (carve1_any x B n _ hB).mono ?_; rintro e w1 ⟨rfl, hb1⟩; rw [hp])
    go_ret
    exact ⟨by rw [show carveAt n l = some k from findIdx_mk Hv.out hp Hn.out]; rfl, below_only hb hb1⟩
   | false =>
    go_wp2_with (go_at_call 120; refine (carve1_any x B n _ hB).mono ?_; rintro e w1 ⟨rfl, hb1⟩; rw [hp])
    go_roundw
    case rel =>
     refine ⟨k + 1, hlt, by go_num, fun j y hj hy => ?_, below_only hb hb1⟩
     rcases Nat.lt_or_ge j k with h | h
     ·exact Hn.out j y h hy
     ·obtain rfl : j = k := by omega
      rw [Hv.out] at hy
      injection hy with hy
      subst hy
      exact hp
    case measure => simp [intOf]; omega
  ·go_wp2
   go_ret
   refine ⟨?_, hb⟩
   have : carveAt n l = none := by
    cases h : carveAt n l with
    | none => rfl
    | some i =>
     obtain ⟨y, h1, h2, h3, _⟩ := findIdx_some h
     have := Hn.out i y (by omega) h1
     rw [h3] at this
     cases this
   rw [this]
   rfl


end Go.Proofs.YtbijaloeilnjoaaGreat

namespace Go.Proofs.YtbijaloeilnjoaaGreat
open Go.RowKit

/-- a ground in memory: where it lies, from where to where it is, what is free, where the row of what is free lies -/
structure Gr (B : Nat) (w : World) (p : Nat) (f e : Int) (l : List Ext) (q : Option Nat) : Prop where
 mem : ∃ A c, w.heap[p]? = some (.cells #[.int .i64 f, .int .i64 e, .slice A l.length c] 165 (0, 0)) ∧ w.ownsRow B 124 2 (.slice A l.length c) l.length (l.flatMap extCells) ∧ (Value.slice A l.length c).ownBlock = q
 ne : q ≠ some p
 low : B ≤ p
 can : Canon f e l
 f0 : 0 ≤ f
 fe : f ≤ e
 e1 : e ≤ 131072

theorem Gr.size {B p : Nat} {w : World} {f e : Int} {l : List Ext} {q : Option Nat} (h : Gr B w p f e l q) : l.length ≤ 131072 := by
 have := h.can.len h.fe
 have := h.f0
 have := h.e1
 omega
theorem Gr.below {B p : Nat} {w w' : World} {f e : Int} {l : List Ext} {q : Option Nat} (h : Gr B w p f e l q) (hb : Below w.heap.size w w') : Gr B w' p f e l q := by
 obtain ⟨A, c, h1, h2, h3⟩ := h.mem
 exact { h with mem := ⟨A, c, row_below h1 hb, own_below h2 hb, h3⟩ }
theorem Gr.kept {B p : Nat} {S : List Nat} {w w' : World} {f e : Int} {l : List Ext} {q : Option Nat} (h : Gr B w p f e l q) (k : Keep S w w') (hp : p ∉ S) (hq : ∀ i, q = some i → i ∉ S) : Gr B w' p f e l q := by
 obtain ⟨A, c, h1, h2, h3⟩ := h.mem
 exact { h with mem := ⟨A, c, k.row h1 hp, own_kept h2 k (by rw [h3]; exact hq), h3⟩ }
theorem Gr.lt {B p : Nat} {w : World} {f e : Int} {l : List Ext} {q : Option Nat} (h : Gr B w p f e l q) : p < w.heap.size ∧ ∀ i, q = some i → i < w.heap.size ∧ B ≤ i := by
 obtain ⟨A, c, h1, h2, h3⟩ := h.mem
 refine ⟨lt_of_heap h1, fun i hi => ?_⟩
 have := h2.lt i (by rw [h3, hi])
 exact ⟨this.2, this.1⟩

theorem i64_or_nat (X Y : Nat) (hX : X < 9223372036854775808) (hY : Y < 9223372036854775808) : bits .or .i64 (X : Int) (Y : Int) = ((X ||| Y : Nat) : Int) := by
 show IntKind.i64.wrap ((BitVec.ofInt 64 (X : Int) ||| BitVec.ofInt 64 (Y : Int)).toNat : Int) = _
 rw [BitVec.toNat_or, BitVec.ofInt_natCast, BitVec.ofInt_natCast, BitVec.toNat_ofNat, BitVec.toNat_ofNat, Nat.mod_eq_of_lt (by omega), Nat.mod_eq_of_lt (by omega)]
 have : X ||| Y < 2 ^ 63 := Nat.or_lt_two_pow (by omega) (by omega)
 exact IntWalk.i64_in _ (by omega)
theorem or_mod8 (a b : Int) (h0 : 0 ≤ a) (h1 : a < 9223372036854775808) (h2 : 0 ≤ b) (h3 : b < 9223372036854775808) : 0 ≤ bits .or .i64 a b ∧ bits .or .i64 a b ≤ 9223372036854775807 ∧ (bits .or .i64 a b % 8 = 0 ↔ a % 8 = 0 ∧ b % 8 = 0) := by
 obtain ⟨X, rfl⟩ := Int.eq_ofNat_of_zero_le h0
 obtain ⟨Y, rfl⟩ := Int.eq_ofNat_of_zero_le h2
 rw [i64_or_nat X Y (by omega) (by omega)]
 have hlt : X ||| Y < 2 ^ 63 := Nat.or_lt_two_pow (by omega) (by omega)
 have hm : (X ||| Y) % 8 = (X % 8) ||| (Y % 8) := Nat.or_mod_two_pow (n := 3)
 have h8 : (X ||| Y) % 8 = 0 ↔ X % 8 = 0 ∧ Y % 8 = 0 := by rw [hm, Nat.or_eq_zero_iff]
 refine ⟨by omega, by omega, ?_⟩
 constructor
 ·intro h
  have := h8.1 (by omega)
  omega
 ·intro h
  have := h8.2 (by omega)
  omega

def newMay (a s : Int) : Bool := inB a 0 65536 && inB s 0 65536 && decide (a % 8 = 0) && decide (s % 8 = 0)



def oneExt (a s : Int) : List Ext := if s = 0 then [] else [(a, s)]

set_option maxHeartbeats 1000000 in
theorem new_good (a s : Int) (w : World) (h : newMay a s = true) :
  Calls Tryz.prog 64 #[.int .i64 a, .int .i64 s] w fun e w' => ∃ p q, e = .returned (.tuple #[.pointer (some ⟨p, 0, none⟩), .int .i64 0]) ∧ Gr w.heap.size w' p a (a + s) (oneExt a s) q ∧ Below w.heap.size w w' := by
 unfold newMay at h
 simp only [Bool.and_eq_true, decide_eq_true_eq] at h
 obtain ⟨⟨⟨ha, hs⟩, ha8⟩, hs8⟩ := h
 have hba := ha
 have hbs := hs
 simp only [inB, decide_eq_true_eq] at hba hbs
 obtain ⟨a0, a1⟩ := hba
 obtain ⟨s0, s1⟩ := hbs
 obtain ⟨o1, o2, o3⟩ := or_mod8 a s (by omega) (by omega) (by omega) (by omega)
 have hd : ((bits .or .i64 a s % 8 : Int) != 0) = false := by
  rw [o3.2 ⟨ha8, hs8⟩]
  rfl
 have Ha8 := Lib.hid ha8
 have Hs8 := Lib.hid hs8
 clear o3 ha8 hs8
 by_cases hz : 0 < s
 ·go_enter Tryz.func64, Tryz.ntmps64
  go_wp2_with (go_at_call 103; refine (within_any _ _ _ _).mono ?_; rintro r w1 ⟨rfl, rfl⟩; first | rw [ha] | rw [hs])
  go_ret2
  refine ⟨w1.heap.size, some (w1.heap.size + 1), rfl, ⟨?_, by simp, Nat.le_refl _, ?_, by omega, by omega, by omega⟩, by go_grown⟩
  ·rw [oneExt, if_neg (by omega)]
   exact ⟨some ⟨w1.heap.size + 1, 0, none⟩, 1, row_alloc (row_new _ _ _), own_all (heap_at (by simp)) (by omega) rfl (by simp [maxLen]), rfl⟩
  ·rw [oneExt, if_neg (by omega)]
   exact ⟨Int.le_refl _, hz, Ha8.out, Hs8.out, Int.le_refl _, trivial⟩
 ·obtain rfl : s = 0 := by omega
  go_enter Tryz.func64, Tryz.ntmps64
  go_wp2_with (go_at_call 103; refine (within_any _ _ _ _).mono ?_; rintro r w1 ⟨rfl, rfl⟩; first | rw [ha] | rw [hs])
  go_ret2
  exact ⟨w1.heap.size, none, rfl, ⟨⟨none, 0, by rw [Int.add_zero]; exact row_new _ _ _, World.ownsRow_nil _ _ _ _, rfl⟩, by simp, Nat.le_refl _, trivial, by omega, by omega, by omega⟩, by go_grown⟩

end Go.Proofs.YtbijaloeilnjoaaGreat
