/- The document's ground, word by word, and the rows of extents, in plain terms. No program in sight. -/
import Derived.Test.YtcicpfhbpcdjcaaGroundPlainC
namespace Go.Proofs.Ytcicpfhbpcdjcaa
open Go.RowKit

/-- what is covered by words that are free -/
def wcov (f : Int) (b : List Bool) (j : Int) : Prop := ∃ i : Nat, b[i]? = some true ∧ f + 8 * i ≤ j ∧ j < f + 8 * i + 8
def words (f : Int) (b : List Bool) : Nat → List Ext
  | 0 => []
  | k + 1 => words f b k ++ if b[k]? = some true then [(f + 8 * (k : Int), 8)] else []
def runs (f : Int) (b : List Bool) (k : Nat) : List Ext := joins (words f b k)

theorem words_mem {f : Int} {b : List Bool} {k : Nat} {x : Ext} (h : x ∈ words f b k) : ∃ i : Nat, i < k ∧ b[i]? = some true ∧ x = (f + 8 * (i : Int), 8) := by
  induction k with
  | zero => cases h
  | succ k ih =>
    rw [words, List.mem_append] at h
    rcases h with h | h
    · obtain ⟨i, h1, h2⟩ := ih h
      exact ⟨i, by omega, h2⟩
    · split at h
      · rename_i hb
        simp at h
        exact ⟨k, by omega, hb, h⟩
      · cases h
theorem mem_words {f : Int} {b : List Bool} {k i : Nat} (hi : i < k) (h : b[i]? = some true) : (f + 8 * (i : Int), (8 : Int)) ∈ words f b k := by
  induction k with
  | zero => omega
  | succ k ih =>
    rw [words, List.mem_append]
    by_cases hk : i = k
    · subst hk
      rw [if_pos h]
      exact .inr (by simp)
    · exact .inl (ih (by omega))
theorem words_fit {f e : Int} {b : List Bool} {k : Nat} (h8 : f % 8 = 0) (he : f + 8 * (k : Int) ≤ e) : (∀ x ∈ words f b k, Fits f e x) ∧ (words f b k).Pairwise fun x y => x.1 + x.2 ≤ y.1 := by
  constructor
  · intro x hx
    obtain ⟨i, h1, _, rfl⟩ := words_mem hx
    refine ⟨?_, ?_, ?_, ?_, ?_⟩ <;> simp only <;> omega
  · clear he
    induction k with
    | zero => exact List.Pairwise.nil
    | succ k ih =>
      rw [words, List.pairwise_append]
      refine ⟨ih, ?_, fun x hx y hy => ?_⟩
      · split
        · exact List.pairwise_singleton _ _
        · exact List.Pairwise.nil
      · obtain ⟨i, h1, _, rfl⟩ := words_mem hx
        split at hy
        · simp at hy
          subst hy
          simp only
          omega
        · cases hy
theorem words_cov {f : Int} {b : List Bool} (j : Int) : cov (words f b b.length) j ↔ wcov f b j := by
  constructor
  · rintro ⟨x, hx, h1, h2⟩
    obtain ⟨i, _, hb, rfl⟩ := words_mem hx
    exact ⟨i, hb, h1, h2⟩
  · rintro ⟨i, hb, h1, h2⟩
    exact ⟨_, mem_words (List.getElem?_eq_some_iff.1 hb).1 hb, h1, h2⟩
theorem runs_all {f e : Int} {b : List Bool} {l : List Ext} (h8 : f % 8 = 0) (he : f + 8 * (b.length : Int) = e) (hl : Canon f e l) (hc : ∀ j, cov l j ↔ wcov f b j) : runs f b b.length = l := by
  obtain ⟨h1, h2⟩ := words_fit (e := e) (b := b) (k := b.length) h8 (by omega)
  obtain ⟨k1, k2, _⟩ := joins_fit _ h1 h2
  refine k1.unique hl fun j => ?_
  rw [k2, words_cov, hc]
theorem runs_can {f e : Int} {b : List Bool} {k : Nat} (h8 : f % 8 = 0) (he : f + 8 * (k : Int) ≤ e) : Canon f e (runs f b k) ∧ ∀ y ∈ runs f b k, y.1 + y.2 ≤ f + 8 * (k : Int) := by
  obtain ⟨h1, h2⟩ := words_fit (e := e) (b := b) (k := k) h8 he
  obtain ⟨k1, k2, k3⟩ := joins_fit _ h1 h2
  exact ⟨k1, k3 _ fun x hx => by
    obtain ⟨i, hi, _, rfl⟩ := words_mem hx
    simp only
    omega⟩
theorem runs_no {f : Int} {b : List Bool} {k : Nat} (h : b[k]? = some false) : runs f b (k + 1) = runs f b k := by
  rw [runs, words, if_neg (by rw [h]; simp), List.append_nil]
  rfl
theorem runs_new {f : Int} {b : List Bool} {k : Nat} (h8 : f % 8 = 0) (h : b[k]? = some true) (h0 : k = 0 ∨ b[k - 1]? = some false) : runs f b (k + 1) = runs f b k ++ [(f + 8 * (k : Int), 8)] := by
  rw [runs, words, if_pos h, joins_snoc]
  show join1 (runs f b k) _ = _
  rcases h0 with h0 | h0
  · subst h0
    rfl
  · cases k with
    | zero => rfl
    | succ k =>
      rw [Nat.add_sub_cancel] at h0
      rw [runs_no h0]
      have hr := (runs_can (e := f + 8 * (k : Int)) (b := b) (k := k) h8 (Int.le_refl _)).2
      generalize runs f b k = o at *
      unfold join1
      rcases List.eq_nil_or_concat o with rfl | ⟨o, y, rfl⟩
      · rfl
      · rw [show o.concat y = o ++ [y] by simp] at *
        simp only [List.getLast?_append, List.getLast?_singleton, Option.some_or]
        rw [if_neg]
        have := hr y (by simp)
        omega
theorem join1_last (out : List Ext) (x : Ext) : ∃ o y, join1 out x = o ++ [y] ∧ y.1 + y.2 = x.1 + x.2 := by
  unfold join1
  split
  · exact ⟨[], x, rfl, rfl⟩
  · rename_i y _
    split
    · exact ⟨_, _, rfl, by simp only; omega⟩
    · exact ⟨_, _, rfl, rfl⟩
theorem runs_old {f : Int} {b : List Bool} {k : Nat} (h : b[k]? = some true) (h0 : k ≠ 0) (h1 : b[k - 1]? = some true) : ∃ o y, runs f b k = o ++ [y] ∧ runs f b (k + 1) = o ++ [(y.1, y.2 + 8)] := by
  cases k with
  | zero => omega
  | succ k =>
    rw [Nat.add_sub_cancel] at h1
    have e1 : runs f b (k + 1) = join1 (runs f b k) (f + 8 * (k : Int), 8) := by rw [runs, words, if_pos h1, joins_snoc]; rfl
    have e2 : runs f b (k + 1 + 1) = join1 (runs f b (k + 1)) (f + 8 * ((k + 1 : Nat) : Int), 8) := by rw [runs, words, if_pos h, joins_snoc]; rfl
    obtain ⟨o, y, h2, h3⟩ := join1_last (runs f b k) (f + 8 * (k : Int), 8)
    rw [h2] at e1
    refine ⟨o, y, e1, ?_⟩
    rw [e2, e1]
    unfold join1
    simp only [List.getLast?_append, List.getLast?_singleton, Option.some_or, List.dropLast_concat]
    rw [if_pos]
    simp only at h3
    omega

/-- words made free, or not -/
def setB (b : List Bool) (i : Nat) (v : Bool) : Nat → List Bool
  | 0 => b
  | m + 1 => (setB b i v m).set (i + m) v
theorem setB_len (b : List Bool) (i : Nat) (v : Bool) (m : Nat) : (setB b i v m).length = b.length := by
  induction m with
  | zero => rfl
  | succ m ih => rw [setB, List.length_set, ih]
theorem setB_get (b : List Bool) (i : Nat) (v : Bool) (m j : Nat) (hm : i + m ≤ b.length) : (setB b i v m)[j]? = if i ≤ j ∧ j < i + m then some v else b[j]? := by
  induction m with
  | zero => rw [setB, if_neg (by omega)]
  | succ m ih =>
    rw [setB, List.getElem?_set, setB_len, ih (by omega)]
    by_cases h : i + m = j
    · rw [if_pos h, if_pos (by omega), if_pos (by omega)]
    · rw [if_neg h]
      by_cases h2 : i ≤ j ∧ j < i + m
      · rw [if_pos h2, if_pos (by omega)]
      · rw [if_neg h2, if_neg (by omega)]

/-- a row of extents and a row of words that tell the same -/
structure Twin (f e : Int) (l : List Ext) (b : List Bool) : Prop where
  can : Canon f e l
  f8 : f % 8 = 0
  len : f + 8 * (b.length : Int) = e
  cov : ∀ j, cov l j ↔ wcov f b j

theorem Twin.word {f e : Int} {l : List Ext} {b : List Bool} (h : Twin f e l b) {i : Nat} {v : Bool} (hb : b[i]? = some v) (j : Int) (h1 : f + 8 * (i : Int) ≤ j) (h2 : j < f + 8 * (i : Int) + 8) : Go.Proofs.Ytcicpfhbpcdjcaa.cov l j ↔ v = true := by
  rw [h.cov]
  constructor
  · rintro ⟨k, hk, k1, k2⟩
    obtain rfl : k = i := by omega
    rw [hb] at hk
    injection hk
  · rintro rfl
    exact ⟨i, hb, h1, h2⟩
theorem wcov_set {f a n : Int} {b : List Bool} {v : Bool} {i m : Nat} (h8 : f % 8 = 0) (ha : a = f + 8 * (i : Int)) (hn : n = 8 * (m : Int)) (hm : i + m ≤ b.length) (j : Int) :
    wcov f (setB b i v m) j ↔ if a ≤ j ∧ j < a + n then v = true else wcov f b j := by
  unfold wcov
  constructor
  · rintro ⟨k, hk, k1, k2⟩
    rw [setB_get _ _ _ _ _ hm] at hk
    split at hk
    · rw [if_pos (by omega)]
      injection hk
    · rw [if_neg (by omega)]
      exact ⟨k, hk, k1, k2⟩
  · split
    · rename_i hj
      rintro rfl
      obtain ⟨k, hk⟩ : ∃ k : Nat, (k : Int) = (j - f) / 8 := ⟨((j - f) / 8).toNat, by omega⟩
      refine ⟨k, ?_, by omega, by omega⟩
      rw [setB_get _ _ _ _ _ hm, if_pos (by omega)]
    · rintro ⟨k, hk, k1, k2⟩
      refine ⟨k, ?_, k1, k2⟩
      rw [setB_get _ _ _ _ _ hm, if_neg (by omega)]
      exact hk

theorem Twin.carve {f e n : Int} {l : List Ext} {b : List Bool} (h : Twin f e l b) (hc : (carveF n l).2.1 = true) : ∃ i m : Nat, (carveF n l).1 = f + 8 * (i : Int) ∧ n = 8 * (m : Int) ∧ i + m ≤ b.length ∧ Twin f e (carveF n l).2.2 (setB b i false m) := by
  obtain ⟨n1, n8, h3, h4, _, h6, h7⟩ := carve_got h.can hc
  obtain ⟨g1, g2, g3, g4, g5⟩ := h4
  simp only at g1 g2 g3 g4 g5
  have := h.f8
  have := h.len
  obtain ⟨i, hi⟩ : ∃ i : Nat, (carveF n l).1 = f + 8 * (i : Int) := ⟨(((carveF n l).1 - f) / 8).toNat, by omega⟩
  obtain ⟨m, hm⟩ : ∃ m : Nat, n = 8 * (m : Int) := ⟨(n / 8).toNat, by omega⟩
  refine ⟨i, m, hi, hm, by omega, h3, h.f8, by rw [setB_len]; exact h.len, fun j => ?_⟩
  rw [wcov_set h.f8 hi hm (by omega), ← h.cov]
  split
  · rename_i hj
    simp only [Bool.false_eq_true, iff_false]
    exact fun hcov => h7 j hcov hj
  · rename_i hj
    constructor
    · exact fun hcov => (h6 j).2 (.inl hcov)
    · intro hcov
      rcases (h6 j).1 hcov with hcov | hcov
      · exact hcov
      · exact absurd hcov hj

theorem Twin.give {f e a n : Int} {l : List Ext} {b : List Bool} (h : Twin f e l b) (hb : giveBad f e a n = false) : ∃ i m : Nat, a = f + 8 * (i : Int) ∧ n = 8 * (m : Int) ∧ i + m ≤ b.length ∧
    ((∀ k, i ≤ k → k < i + m → b[k]? = some false) → giveF f e a n l = (0, joins (giveAll a n l)) ∧ Twin f e (joins (giveAll a n l)) (setB b i true m)) ∧
    ((∃ k, i ≤ k ∧ k < i + m ∧ b[k]? = some true) → giveF f e a n l = (1, l)) := by
  have hok := hb
  unfold giveBad at hok
  simp only [Bool.or_eq_false_iff, decide_eq_false_iff_not] at hok
  have := h.f8
  have := h.len
  obtain ⟨i, hi⟩ : ∃ i : Nat, a = f + 8 * (i : Int) := ⟨((a - f) / 8).toNat, by omega⟩
  obtain ⟨m, hm⟩ : ∃ m : Nat, n = 8 * (m : Int) := ⟨(n / 8).toNat, by omega⟩
  refine ⟨i, m, hi, hm, by omega, fun hfree => ?_, fun ⟨k, k1, k2, hk⟩ => ?_⟩
  · obtain ⟨h1, h2, h3⟩ := give_got (a := a) (n := n) h.can ⟨by simp only; omega, by simp only; omega, by simp only; omega, by simp only; omega, by simp only; omega⟩ (fun j j1 j2 hc => by
      obtain ⟨k, hk, k1, k2⟩ := (h.cov j).1 hc
      rw [hfree k (by omega) (by omega)] at hk
      cases hk)
    refine ⟨h1, h2, h.f8, by rw [setB_len]; exact h.len, fun j => ?_⟩
    rw [h3, wcov_set h.f8 hi hm (by omega), h.cov]
    split
    · rename_i hj
      simp [hj]
    · rename_i hj
      simp [hj]
  · have hmt : giveMeets a n l = true := (give_meets h.can (by omega)).2 ⟨f + 8 * (k : Int), by omega, by omega, (h.cov _).2 ⟨k, hk, by omega, by omega⟩⟩
    unfold giveF
    rw [hmt, Bool.or_true]
    rfl

theorem Twin.new {f n : Int} {m : Nat} (h8 : f % 8 = 0) (hm : n = 8 * (m : Int)) : Twin f (f + n) (oneExt f n) (List.replicate m true) := by
  unfold oneExt
  split
  · rename_i h0
    obtain rfl : m = 0 := by omega
    refine ⟨trivial, h8, by simp; omega, fun j => ?_⟩
    constructor
    · exact fun h => absurd h (cov_nil j)
    · rintro ⟨i, hi, _⟩
      simp at hi
  · rename_i h0
    refine ⟨⟨by simp, by simp only; omega, by simpa using h8, by simp only; omega, by simp, trivial⟩, h8, by simp; omega, fun j => ?_⟩
    rw [cov_cons]
    simp only [cov_nil, or_false]
    constructor
    · intro hj
      exact ⟨((j - f) / 8).toNat, by rw [List.getElem?_replicate, if_pos (by omega)], by omega, by omega⟩
    · rintro ⟨i, hi, i1, i2⟩
      rw [List.getElem?_replicate] at hi
      split at hi
      · omega
      · cases hi
end Go.Proofs.Ytcicpfhbpcdjcaa
