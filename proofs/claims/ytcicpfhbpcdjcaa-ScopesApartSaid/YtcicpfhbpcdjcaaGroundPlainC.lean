/- What is held and given back again, in plain terms. No program in sight. -/
import Derived.Test.YtcicpfhbpcdjcaaGroundI
namespace Go.Proofs.Ytcicpfhbpcdjcaa
open Go.RowKit

def total : List Ext → Int
  | [] => 0
  | x :: l => x.2 + total l
theorem total_append (l m : List Ext) : total (l ++ m) = total l + total m := by
  induction l with
  | nil => simp [total]
  | cons x l ih => rw [List.cons_append, total, total, ih]; omega
theorem total_join1 (out : List Ext) (x : Ext) : total (join1 out x) = total out + x.2 := by
  rcases List.eq_nil_or_concat out with rfl | ⟨o, y, rfl⟩
  · simp [join1, total]
  · rw [show o.concat y = o ++ [y] by simp]
    unfold join1
    simp only [List.getLast?_append, List.getLast?_singleton, Option.some_or, List.dropLast_concat]
    split
    · rw [total_append, total_append]; simp [total]; omega
    · rw [total_append]; simp [total]
theorem total_joins (l : List Ext) : total (joins l) = total l := by
  suffices ∀ l out, total (List.foldl join1 out l) = total out + total l by simpa [joins, total] using this l []
  intro l
  induction l with
  | nil => simp [total]
  | cons x l ih =>
    intro out
    rw [List.foldl_cons, ih, total_join1, total]
    omega
theorem total_give (a n : Int) (l : List Ext) : total (joins (giveAll a n l)) = total l + n := by
  rw [total_joins, giveAll, total_append, total]
  have := total_append (l.take (giveIdx a l)) (l.drop (giveIdx a l))
  rw [List.take_append_drop] at this
  simp only
  omega
theorem total_carve (n : Int) {l : List Ext} {i : Nat} {x : Ext} (h : l[i]? = some x) : total (carveRest n i x l) = total l - n := by
  have hp := parted h
  rw [carveRest_eq n h, total_append, total_append]
  have : total l = total (l.take i) + (x.2 + total (l.drop (i + 1))) := by
    conv => lhs; rw [hp]
    rw [total_append, total]
  split
  · simp [total]; omega
  · simp [total]; omega
theorem total_nonneg {lo hi : Int} {l : List Ext} (h : Canon lo hi l) : 0 ≤ total l := by
  induction l generalizing lo with
  | nil => simp [total]
  | cons x r ih =>
    obtain ⟨h1, h2, h3, h4, h5, h6⟩ := h
    have := ih h6
    rw [total]
    omega
theorem total_le {lo hi : Int} {l : List Ext} (h : Canon lo hi l) (hl : lo ≤ hi) : total l ≤ hi - lo := by
  induction l generalizing lo with
  | nil => simp [total]; omega
  | cons x r ih =>
    obtain ⟨h1, h2, h3, h4, h5, h6⟩ := h
    rw [total]
    by_cases he : x.1 + x.2 + 1 ≤ hi
    · have := ih h6 he
      omega
    · cases r with
      | nil => simp [total]; omega
      | cons y s =>
        have h61 := h6.1
        have h62 := h6.2.1
        have h63 := h6.2.2.2.2.1
        omega

theorem carve_false {n : Int} {l : List Ext} (h : (carveF n l).2.1 = false) : (carveF n l).1 = 0 ∧ (carveF n l).2.2 = l := by
  unfold carveF at h ⊢
  split
  · simp
  · split
    · simp
    · split
      · simp
      · rename_i h1 _ _ h2 _ _ h3
        rw [if_neg h1, h2] at h
        simp [h3] at h
theorem carve_true {n : Int} {l : List Ext} (h : (carveF n l).2.1 = true) : carveBad n = false ∧ ∃ i x, carveAt n l = some i ∧ l[i]? = some x ∧ carveF n l = (x.1, true, carveRest n i x l) := by
  unfold carveF at h ⊢
  split at h
  · simp at h
  · rename_i h1
    split at h
    · simp at h
    · rename_i i h2
      split at h
      · simp at h
      · rename_i x h3
        exact ⟨by simpa using h1, i, x, h2, h3, if_neg h1⟩

theorem carveBad_no {n : Int} : carveBad n = false ↔ 1 ≤ n ∧ n % 8 = 0 := by
  unfold carveBad
  simp only [Bool.or_eq_false_iff, decide_eq_false_iff_not]
  omega

/-- what comes of a carving that is let in -/
theorem carve_got {f e n : Int} {l : List Ext} (h : Canon f e l) (hc : (carveF n l).2.1 = true) :
    1 ≤ n ∧ n % 8 = 0 ∧ Canon f e (carveF n l).2.2 ∧ Fits f e ((carveF n l).1, n) ∧ total (carveF n l).2.2 = total l - n ∧
      (∀ j, cov l j ↔ cov (carveF n l).2.2 j ∨ ((carveF n l).1 ≤ j ∧ j < (carveF n l).1 + n)) ∧ ∀ j, cov (carveF n l).2.2 j → ¬ ((carveF n l).1 ≤ j ∧ j < (carveF n l).1 + n) := by
  obtain ⟨hb, i, x, hi, hx, he⟩ := carve_true hc
  obtain ⟨n1, n8⟩ := carveBad_no.1 hb
  obtain ⟨y, hy, _, hp, _⟩ := findIdx_some hi
  rw [hx] at hy
  injection hy with hy
  subst hy
  have hn : n ≤ x.2 := by simpa using hp
  obtain ⟨k1, k2, k3⟩ := carve_fit h hx (by omega) n8 hn
  have hm := h.mem (List.mem_of_getElem? hx)
  rw [he]
  exact ⟨n1, n8, k1, ⟨hm.1, by show 0 < n; omega, hm.2.2.1, n8, by show x.1 + n ≤ e; omega⟩, total_carve n hx, k2, k3⟩

/-- those that are held: within, apart, and not free -/
structure Held (f e : Int) (l H : List Ext) : Prop where
  fit : ∀ x ∈ H, Fits f e x
  apart : H.Pairwise fun x y => x.1 + x.2 ≤ y.1 ∨ y.1 + y.2 ≤ x.1
  free : ∀ x ∈ H, ∀ j, x.1 ≤ j → j < x.1 + x.2 → ¬ cov l j

theorem Held.nil (f e : Int) (l : List Ext) : Held f e l [] := ⟨fun _ h => absurd h (by simp), List.Pairwise.nil, fun _ h => absurd h (by simp)⟩
theorem Held.less {f e : Int} {l l' H : List Ext} (h : Held f e l H) (hc : ∀ j, cov l' j → cov l j) : Held f e l' H := ⟨h.fit, h.apart, fun x hx j h1 h2 h3 => h.free x hx j h1 h2 (hc j h3)⟩
theorem Held.keep {f e n : Int} {l H : List Ext} (hl : Canon f e l) (h : Held f e l H) : Held f e (carveF n l).2.2 H := by
  cases hc : (carveF n l).2.1 with
  | false => rw [(carve_false hc).2]; exact h
  | true =>
    obtain ⟨_, _, _, _, _, h6, _⟩ := carve_got hl hc
    exact h.less fun j hj => (h6 j).2 (.inl hj)
theorem Held.more {f e n : Int} {l H : List Ext} (hl : Canon f e l) (h : Held f e l H) (hc : (carveF n l).2.1 = true) : Held f e (carveF n l).2.2 (H ++ [((carveF n l).1, n)]) := by
  have hk := h.keep (n := n) hl
  obtain ⟨n1, _, _, h4, _, h6, h7⟩ := carve_got hl hc
  refine ⟨fun x hx => ?_, ?_, fun x hx j h1 h2 => ?_⟩
  · rcases List.mem_append.1 hx with hx | hx
    · exact h.fit x hx
    · simp at hx
      subst hx
      exact h4
  · rw [List.pairwise_append]
    refine ⟨h.apart, List.pairwise_singleton _ _, fun x hx y hy => ?_⟩
    simp at hy
    subst hy
    have hx0 := (h.fit x hx).2.1
    show x.1 + x.2 ≤ (carveF n l).1 ∨ (carveF n l).1 + n ≤ x.1
    by_cases h1 : x.1 + x.2 ≤ (carveF n l).1
    · exact .inl h1
    · by_cases h2 : (carveF n l).1 + n ≤ x.1
      · exact .inr h2
      · exfalso
        by_cases h3 : x.1 ≤ (carveF n l).1
        · exact h.free x hx (carveF n l).1 h3 (by omega) ((h6 _).2 (.inr ⟨by omega, by omega⟩))
        · exact h.free x hx x.1 (by omega) (by omega) ((h6 _).2 (.inr ⟨by omega, by omega⟩))
  · rcases List.mem_append.1 hx with hx | hx
    · exact hk.free x hx j h1 h2
    · simp at hx
      subst hx
      exact fun hcov => h7 j hcov ⟨h1, h2⟩

theorem Held.apart_of {f e : Int} {l H : List Ext} (h : Held f e l H) {i k : Nat} {x y : Ext} (hx : H[i]? = some x) (hy : H[k]? = some y) (hne : i ≠ k) (j : Int) (h1 : x.1 ≤ j ∧ j < x.1 + x.2) : ¬ (y.1 ≤ j ∧ j < y.1 + y.2) := by
  have hp := h.apart
  rw [List.pairwise_iff_getElem] at hp
  obtain ⟨hi, rfl⟩ := List.getElem?_eq_some_iff.1 hx
  obtain ⟨hk, rfl⟩ := List.getElem?_eq_some_iff.1 hy
  rcases Nat.lt_or_gt_of_ne hne with g | g
  · have := hp i k hi hk g
    omega
  · have := hp k i hk hi g
    omega

/-- as many as i of those that were held are given back, in the order s -/
structure Given (f e : Int) (l0 H : List Ext) (s : Nat → Nat) (i : Nat) (l : List Ext) : Prop where
  can : Canon f e l
  cov : ∀ j, cov l j ↔ cov l0 j ∨ ∃ k x, k < i ∧ H[s k]? = some x ∧ x.1 ≤ j ∧ j < x.1 + x.2

theorem Given.zero {f e : Int} {l : List Ext} (H : List Ext) (s : Nat → Nat) (h : Canon f e l) : Given f e l H s 0 l := ⟨h, fun j => ⟨.inl, fun h => h.elim id (fun ⟨k, _, hk, _⟩ => by omega)⟩⟩

theorem giveBad_no {f e a n : Int} (h : Fits f e (a, n)) : giveBad f e a n = false := by
  obtain ⟨h1, h2, h3, h4, h5⟩ := h
  simp only at h1 h2 h3 h4 h5
  unfold giveBad
  simp only [Bool.or_eq_false_iff, decide_eq_false_iff_not]
  omega
theorem give_got {f e a n : Int} {l : List Ext} (h : Canon f e l) (hx : Fits f e (a, n)) (hn : ∀ j, a ≤ j → j < a + n → ¬ cov l j) : giveF f e a n l = (0, joins (giveAll a n l)) ∧ Canon f e (joins (giveAll a n l)) ∧ ∀ j, cov (joins (giveAll a n l)) j ↔ cov l j ∨ (a ≤ j ∧ j < a + n) := by
  have hm : giveMeets a n l = false := by
    cases hm : giveMeets a n l with
    | false => rfl
    | true =>
      obtain ⟨j, h1, h2, h3⟩ := (give_meets h hx.2.1).1 hm
      exact absurd h3 (hn j h1 h2)
  refine ⟨?_, give_fit h hx.2.1 hx.2.2.2.1 hx.2.2.1 hx.1 hx.2.2.2.2 hm⟩
  unfold giveF
  rw [giveBad_no hx, hm]
  rfl
theorem give_again {f e a n : Int} {l : List Ext} (h : Canon f e l) (hx : Fits f e (a, n)) (hn : cov l a) : giveF f e a n l = (1, l) := by
  have hm : giveMeets a n l = true := (give_meets h hx.2.1).2 ⟨a, Int.le_refl _, by have := hx.2.1; simp only at this; omega, hn⟩
  unfold giveF
  rw [hm, Bool.or_true]
  rfl

theorem Given.next {f e : Int} {l0 H l : List Ext} {s : Nat → Nat} {i : Nat} {x : Ext} (hH : Held f e l0 H) (hs : ∀ k, k < i → s k ≠ s i) (h : Given f e l0 H s i l) (hx : H[s i]? = some x) :
    giveF f e x.1 x.2 l = (0, joins (giveAll x.1 x.2 l)) ∧ Given f e l0 H s (i + 1) (joins (giveAll x.1 x.2 l)) := by
  have hf := hH.fit x (List.mem_of_getElem? hx)
  obtain ⟨h1, h2, h3⟩ := give_got (a := x.1) (n := x.2) h.can hf (fun j j1 j2 hc => by
    rcases (h.cov j).1 hc with hc | ⟨k, y, hk, hy, y1, y2⟩
    · exact hH.free x (List.mem_of_getElem? hx) j j1 j2 hc
    · exact hH.apart_of hx hy (fun e => hs k hk e.symm) j ⟨j1, j2⟩ ⟨y1, y2⟩)
  refine ⟨h1, h2, fun j => ?_⟩
  rw [h3, h.cov]
  constructor
  · rintro ((hc | ⟨k, y, hk, hy⟩) | hc)
    · exact .inl hc
    · exact .inr ⟨k, y, by omega, hy⟩
    · exact .inr ⟨i, x, by omega, hx, hc⟩
  · rintro (hc | ⟨k, y, hk, hy, hc⟩)
    · exact .inl (.inl hc)
    · by_cases hki : k = i
      · subst hki
        rw [hx] at hy
        injection hy with hy
        subst hy
        exact .inr hc
      · exact .inl (.inr ⟨k, y, by omega, hy, hc⟩)

/-- all are given back, in whichever order -/
theorem Given.all {f e : Int} {l0 H l m : List Ext} {s t : Nat → Nat} (hs : ∀ k, k < H.length → ∃ i, i < H.length ∧ s i = k) (ht : ∀ k, k < H.length → ∃ i, i < H.length ∧ t i = k)
    (h : Given f e l0 H s H.length l) (k : Given f e l0 H t H.length m) : l = m := by
  refine h.can.unique k.can fun j => ?_
  rw [h.cov, k.cov]
  constructor
  · rintro (hc | ⟨i, x, hi, hx, hc⟩)
    · exact .inl hc
    · obtain ⟨i', hi', e⟩ := ht (s i) (List.getElem?_eq_some_iff.1 hx).1
      exact .inr ⟨i', x, hi', by rw [e]; exact hx, hc⟩
  · rintro (hc | ⟨i, x, hi, hx, hc⟩)
    · exact .inl hc
    · obtain ⟨i', hi', e⟩ := hs (t i) (List.getElem?_eq_some_iff.1 hx).1
      exact .inr ⟨i', x, hi', by rw [e]; exact hx, hc⟩

theorem mod_ne {n a k : Nat} (hk : 0 < k) (hkn : k < n) : (a + k) % n ≠ a % n := by
  intro e
  have hn : 0 < n := by omega
  have h1 := Nat.div_add_mod (a + k) n
  have h2 := Nat.div_add_mod a n
  rw [e] at h1
  have h3 : n * ((a + k) / n) = n * (a / n) + k := by omega
  have h4 : n * ((a + k) / n - a / n) = k := by rw [Nat.mul_sub]; omega
  rcases Nat.eq_zero_or_pos ((a + k) / n - a / n) with g | g
  · rw [g] at h4; omega
  · have := Nat.le_mul_of_pos_right n g
    omega
theorem mod_hit {n a k : Nat} (hk : k < n) : ∃ i, i < n ∧ (a + i) % n = k := by
  have hn : 0 < n := by omega
  have ha := Nat.mod_lt a hn
  have e : ∀ i, (a + i) % n = (a % n + i) % n := fun i => by simp
  by_cases h : a % n ≤ k
  · exact ⟨k - a % n, by omega, by rw [e, show a % n + (k - a % n) = k by omega, Nat.mod_eq_of_lt hk]⟩
  · refine ⟨k + n - a % n, by omega, ?_⟩
    rw [e, show a % n + (k + n - a % n) = k + n by omega, Nat.add_mod_right, Nat.mod_eq_of_lt hk]
end Go.Proofs.Ytcicpfhbpcdjcaa
