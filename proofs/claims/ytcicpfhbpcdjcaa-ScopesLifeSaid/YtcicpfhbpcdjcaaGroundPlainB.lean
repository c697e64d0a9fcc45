/- What is carved and given back, in plain terms. No program in sight. -/
import Derived.Test.YtcicpfhbpcdjcaaGroundPlain
namespace Go.Proofs.Ytcicpfhbpcdjcaa
open Go.RowKit

def Fits (lo hi : Int) (x : Ext) : Prop := lo ≤ x.1 ∧ 0 < x.2 ∧ x.1 % 8 = 0 ∧ x.2 % 8 = 0 ∧ x.1 + x.2 ≤ hi

theorem joins_fit {lo hi : Int} (l : List Ext) (h : ∀ x ∈ l, Fits lo hi x) (hp : l.Pairwise fun x y => x.1 + x.2 ≤ y.1) :
    Canon lo hi (joins l) ∧ (∀ j, cov (joins l) j ↔ cov l j) ∧ ∀ b, (∀ x ∈ l, x.1 + x.2 ≤ b) → ∀ y ∈ joins l, y.1 + y.2 ≤ b := by
  induction hn : l.length generalizing l with
  | zero =>
    obtain rfl := List.eq_nil_of_length_eq_zero hn
    exact ⟨trivial, fun j => Iff.rfl, fun b _ y hy => by cases hy⟩
  | succ n ih =>
    rcases List.eq_nil_or_concat l with rfl | ⟨m, x, rfl⟩
    · simp at hn
    · rw [show m.concat x = m ++ [x] by simp] at *
      rw [List.pairwise_append] at hp
      obtain ⟨h1, h2, h3⟩ := ih m (fun y hy => h y (by simp [hy])) hp.1 (by simpa using hn)
      have hx := h x (by simp)
      obtain ⟨k1, k2, k3⟩ := join1_fit h1 hx (h3 x.1 (fun y hy => hp.2.2 y hy x (by simp)))
      rw [joins_snoc]
      refine ⟨k1, fun j => ?_, fun b hb y hy => ?_⟩
      · rw [k2, h2, cov_append, cov_cons]
        simp [cov_nil]
      · have := k3 y hy
        have := hb x (by simp)
        omega

theorem Canon.pair {lo hi : Int} {l : List Ext} (h : Canon lo hi l) : l.Pairwise fun x y => x.1 + x.2 ≤ y.1 := by
  induction l generalizing lo with
  | nil => exact List.Pairwise.nil
  | cons x r ih =>
    obtain ⟨h1, h2, h3, h4, h5, h6⟩ := h
    exact List.Pairwise.cons (fun y hy => by have := (h6.mem hy).1; omega) (ih h6)

/-- what is found by a search -/
theorem findIdx_some {α : Type} {p : α → Bool} {l : List α} {i : Nat} (h : l.findIdx? p = some i) : ∃ x, l[i]? = some x ∧ i < l.length ∧ p x = true ∧ ∀ j y, j < i → l[j]? = some y → p y = false := by
  induction l generalizing i with
  | nil => simp at h
  | cons a l ih =>
    rw [List.findIdx?_cons] at h
    split at h
    · rename_i ha
      injection h with h
      subst h
      exact ⟨a, rfl, by simp, ha, by omega⟩
    · rename_i ha
      cases hf : l.findIdx? p with
      | none => rw [hf] at h; simp at h
      | some k =>
        rw [hf] at h
        simp at h
        subst h
        obtain ⟨x, h1, h2, h3, h4⟩ := ih hf
        refine ⟨x, by simpa using h1, by simp; omega, h3, fun j y hj hy => ?_⟩
        cases j with
        | zero => simp at hy; subst hy; simpa using ha
        | succ j => exact h4 j y (by omega) (by simpa using hy)
theorem findIdx_none {α : Type} {p : α → Bool} {l : List α} (h : l.findIdx? p = none) : ∀ x ∈ l, p x = false := by
  simpa using h
theorem findIdx_mk {α : Type} {p : α → Bool} {l : List α} {i : Nat} {x : α} (h1 : l[i]? = some x) (h2 : p x = true) (h3 : ∀ j y, j < i → l[j]? = some y → p y = false) : l.findIdx? p = some i := by
  cases h : l.findIdx? p with
  | none =>
    have := findIdx_none h x (List.mem_of_getElem? h1)
    rw [h2] at this
    cases this
  | some k =>
    obtain ⟨y, k1, _, k2, k3⟩ := findIdx_some h
    rcases Nat.lt_trichotomy i k with g | g | g
    · have := k3 i x g h1
      rw [h2] at this
      cases this
    · rw [g]
    · have := h3 k y g k1
      rw [k2] at this
      cases this
theorem parted {α : Type} {l : List α} {i : Nat} {x : α} (h : l[i]? = some x) : l = l.take i ++ x :: l.drop (i + 1) := by
  obtain ⟨hi, hx⟩ := List.getElem?_eq_some_iff.1 h
  rw [← hx, ← List.drop_eq_getElem_cons hi, List.take_append_drop]

theorem carveRest_eq (n : Int) {l : List Ext} {i : Nat} {x : Ext} (h : l[i]? = some x) : carveRest n i x l = l.take i ++ ((if x.2 = n then [] else [(x.1 + n, x.2 - n)]) ++ l.drop (i + 1)) := by
  have hi := (List.getElem?_eq_some_iff.1 h).1
  unfold carveRest
  split
  · rw [List.eraseIdx_eq_take_drop_succ]; simp
  · rw [List.set_eq_take_append_cons_drop, if_pos hi]; simp

theorem carve_fit {lo hi n : Int} {l : List Ext} {i : Nat} {x : Ext} (h : Canon lo hi l) (hx : l[i]? = some x) (h0 : 0 < n) (h8 : n % 8 = 0) (hn : n ≤ x.2) :
    Canon lo hi (carveRest n i x l) ∧ (∀ j, cov l j ↔ cov (carveRest n i x l) j ∨ (x.1 ≤ j ∧ j < x.1 + n)) ∧ ∀ j, cov (carveRest n i x l) j → ¬ (x.1 ≤ j ∧ j < x.1 + n) := by
  rw [carveRest_eq n hx]
  have hp := parted hx
  generalize l.take i = a at *
  generalize l.drop (i + 1) = b at *
  subst hp
  obtain ⟨h1, h2, h3⟩ := h.split
  have hh := h2
  obtain ⟨g1, g2, g3, g4, g5, g6⟩ := h2
  have hmid : Canon x.1 hi ((if x.2 = n then [] else [(x.1 + n, x.2 - n)]) ++ b) := by
    split
    · exact g6.mono (by omega)
    · exact ⟨by simp; omega, by simp; omega, by simp; omega, by simp; omega, by simp; omega, g6.mono (by simp; omega)⟩
  have hm : ∀ j, cov ((if x.2 = n then [] else [(x.1 + n, x.2 - n)]) ++ b) j ↔ (x.1 + n ≤ j ∧ j < x.1 + x.2) ∨ cov b j := by
    intro j
    rw [cov_append]
    split
    · rename_i e
      simp only [cov_nil, false_or]
      constructor
      · exact .inr
      · rintro (⟨a, b⟩ | a)
        · omega
        · exact a
    · rw [cov_cons]
      simp only [cov_nil, or_false]
      constructor
      · rintro (⟨a, b⟩ | a)
        · exact .inl ⟨a, by omega⟩
        · exact .inr a
      · rintro (⟨a, b⟩ | a)
        · exact .inl ⟨a, by omega⟩
        · exact .inr a
  refine ⟨h1.append hmid g1 (fun y hy => h3 y hy x (by simp)), fun j => ?_, fun j hj => ?_⟩
  · rw [cov_append, cov_append, cov_cons, hm]
    constructor
    · rintro (a | a | a)
      · exact .inl (.inl a)
      · by_cases hj : j < x.1 + n
        · exact .inr ⟨a.1, hj⟩
        · exact .inl (.inr (.inl ⟨by omega, a.2⟩))
      · exact .inl (.inr (.inr a))
    · rintro ((a | a | a) | a)
      · exact .inl a
      · exact .inr (.inl ⟨by omega, a.2⟩)
      · exact .inr (.inr a)
      · exact .inr (.inl ⟨a.1, by omega⟩)
  · rw [cov_append, hm] at hj
    rcases hj with ⟨y, hy, k1, k2⟩ | a | a
    · have := h3 y hy x (by simp)
      omega
    · omega
    · have := g6.low a
      omega

/-- giving back: whether it meets what is free -/
def giveIdx (a : Int) (l : List Ext) : Nat := (giveAt a l).getD l.length
def giveAll (a n : Int) (l : List Ext) : List Ext := l.take (giveIdx a l) ++ (a, n) :: l.drop (giveIdx a l)
def giveMeets (a n : Int) (l : List Ext) : Bool := match l[giveIdx a l]? with | none => false | some x => decide (x.1 < a + n)

theorem giveIdx_le (a : Int) (l : List Ext) : giveIdx a l ≤ l.length := by
  unfold giveIdx giveAt
  cases h : l.findIdx? fun x => decide (a < x.1 + x.2) with
  | none => simp
  | some i =>
    obtain ⟨_, _, hi, _⟩ := findIdx_some h
    simp
    omega
theorem giveIdx_low (a : Int) (l : List Ext) : ∀ x ∈ l.take (giveIdx a l), x.1 + x.2 ≤ a := by
  intro x hx
  obtain ⟨j, hj, he⟩ := List.getElem_of_mem hx
  rw [List.length_take] at hj
  have hx' : l[j]? = some x := by
    rw [List.getElem_take] at he
    rw [List.getElem?_eq_getElem (by omega), he]
  unfold giveIdx giveAt at hj
  cases h : l.findIdx? fun x => decide (a < x.1 + x.2) with
  | none =>
    have := findIdx_none h x (List.mem_of_getElem? hx')
    simpa using this
  | some i =>
    rw [h] at hj
    obtain ⟨_, _, _, _, h4⟩ := findIdx_some h
    have := h4 j x (by simp at hj; omega) hx'
    simpa using this
theorem giveIdx_high {a : Int} {l : List Ext} {x : Ext} (h : l[giveIdx a l]? = some x) : a < x.1 + x.2 := by
  unfold giveIdx giveAt at h
  cases hf : l.findIdx? fun x => decide (a < x.1 + x.2) with
  | none =>
    rw [hf] at h
    simp at h
  | some i =>
    rw [hf] at h
    obtain ⟨y, h1, _, h3, _⟩ := findIdx_some hf
    simp at h
    rw [h1] at h
    injection h with h
    subst h
    simpa using h3

theorem give_meets {lo hi a n : Int} {l : List Ext} (h : Canon lo hi l) (hn : 0 < n) : giveMeets a n l = true ↔ ∃ j, a ≤ j ∧ j < a + n ∧ cov l j := by
  unfold giveMeets
  have hlow := giveIdx_low a l
  cases hx : l[giveIdx a l]? with
  | none =>
    have hl : l.length ≤ giveIdx a l := by simpa using hx
    rw [List.take_of_length_le hl] at hlow
    simp only [Bool.false_eq_true, false_iff]
    rintro ⟨j, j1, j2, x, hm, k1, k2⟩
    have := hlow x hm
    omega
  | some x =>
    have hhigh := giveIdx_high hx
    simp only [decide_eq_true_eq]
    have hp := parted hx
    constructor
    · intro hlt
      have hxm := List.mem_of_getElem? hx
      have := h.mem hxm
      by_cases ha : a ≤ x.1
      · exact ⟨x.1, ha, hlt, x, hxm, by omega, by omega⟩
      · exact ⟨a, by omega, by omega, x, hxm, by omega, by omega⟩
    · rintro ⟨j, j1, j2, y, hm, k1, k2⟩
      rw [hp, List.mem_append] at hm
      rcases hm with hm | hm
      · have := hlow y hm
        omega
      · rw [hp] at h
        obtain ⟨_, h2, _⟩ := h.split
        rcases List.mem_cons.1 hm with rfl | hm
        · omega
        · have := (h2.2.2.2.2.2.mem hm).1
          have := h2.2.1
          omega

theorem give_high {lo hi a n : Int} {l : List Ext} (h : Canon lo hi l) (hm : giveMeets a n l = false) : ∀ x ∈ l.drop (giveIdx a l), a + n ≤ x.1 := by
  intro x hx
  unfold giveMeets at hm
  cases hy : l[giveIdx a l]? with
  | none =>
    have hl : l.length ≤ giveIdx a l := by simpa using hy
    rw [List.drop_eq_nil_of_le hl] at hx
    cases hx
  | some y =>
    rw [hy] at hm
    simp at hm
    have hp := parted hy
    rw [hp] at h
    obtain ⟨_, h2, _⟩ := h.split
    have hi := (List.getElem?_eq_some_iff.1 hy)
    rw [List.drop_eq_getElem_cons hi.1, hi.2] at hx
    rcases List.mem_cons.1 hx with rfl | hx
    · omega
    · have := (h2.2.2.2.2.2.mem hx).1
      have := h2.2.1
      omega
theorem give_fit {lo hi a n : Int} {l : List Ext} (h : Canon lo hi l) (h0 : 0 < n) (h8 : n % 8 = 0) (ha : a % 8 = 0) (hlo : lo ≤ a) (hhi : a + n ≤ hi) (hm : giveMeets a n l = false) :
    Canon lo hi (joins (giveAll a n l)) ∧ ∀ j, cov (joins (giveAll a n l)) j ↔ cov l j ∨ (a ≤ j ∧ j < a + n) := by
  have hlow := giveIdx_low a l
  have hhigh := give_high h hm
  have hsp : l = l.take (giveIdx a l) ++ l.drop (giveIdx a l) := (List.take_append_drop _ _).symm
  have hpw := h.pair
  have hmem := fun x hx => h.mem (x := x) hx
  unfold giveAll
  generalize l.take (giveIdx a l) = u at *
  generalize l.drop (giveIdx a l) = v at *
  subst hsp
  rw [List.pairwise_append] at hpw
  obtain ⟨k1, k2, _⟩ := joins_fit (lo := lo) (hi := hi) (u ++ (a, n) :: v) (fun x hx => by
    rcases List.mem_append.1 hx with hx | hx
    · exact hmem x (by simp [hx])
    · rcases List.mem_cons.1 hx with rfl | hx
      · exact ⟨hlo, h0, ha, h8, hhi⟩
      · exact hmem x (by simp [hx])) (by
    rw [List.pairwise_append, List.pairwise_cons]
    refine ⟨hpw.1, ⟨fun y hy => hhigh y hy, hpw.2.1⟩, fun x hx y hy => ?_⟩
    rcases List.mem_cons.1 hy with rfl | hy
    · exact hlow x hx
    · exact hpw.2.2 x hx y hy)
  refine ⟨k1, fun j => ?_⟩
  rw [k2, cov_append, cov_append, cov_cons]
  constructor
  · rintro (a | a | a)
    · exact .inl (.inl a)
    · exact .inr a
    · exact .inl (.inr a)
  · rintro ((a | a) | a)
    · exact .inl a
    · exact .inr (.inr a)
    · exact .inr (.inl a)

end Go.Proofs.Ytcicpfhbpcdjcaa
