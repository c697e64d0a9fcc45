/- Of entries that a thread may have, above is an order: the plain law. No program in sight. -/
import Derived.Test.YtaneokplagdcfaaChainF
namespace Go.Proofs.Ytaneokplagdcfaa
open Go.RowKit
set_option linter.unusedSectionVars false

/-- entries that a thread may have -/
inductive Good : List Ent → Prop
  | nil : Good []
  | snoc (o : List Ent) (s : Int) (x : Bool) : Good o → 0 ≤ s → s ≤ 7 → keepB o s x = true → Good (o ++ [(s, x)])

theorem good_from (l : List Ent) : ∀ o, Good o → o.length ≤ 5 → Good (fitFrom o l) ∧ (fitFrom o l).length ≤ 5 := by
  induction l with
  | nil => exact fun o h h5 => ⟨h, h5⟩
  | cons e l ih =>
    intro o h h5
    rw [fitFrom]
    split
    · exact ⟨h, h5⟩
    · cases hk : keepB o (e.1 % 8) e.2 with
      | true => exact ih _ (.snoc o _ _ h (by omega) (by omega) hk) (by simp; omega)
      | false => exact ih _ h h5
theorem fit_good (l : List Ent) : Good (fit l) ∧ (fit l).length ≤ 5 := good_from l [] .nil (by simp)

theorem idx_app (v : Ent) (o r : List Ent) (h : 0 ≤ idx v o) : idx v (o ++ r) = idx v o := by
  rcases idx_cases v o with ⟨e, _⟩ | ⟨k, hk, e, hv, hj⟩
  · omega
  · rw [e]
    exact idx_some v _ k (by rw [List.getElem?_append_left hk]; exact hv) (fun j h => by rw [List.getElem?_append_left (by omega)]; exact hj j h)
theorem idx_last (v : Ent) (o : List Ent) : 0 ≤ idx v (o ++ [v]) := by
  rcases idx_cases v (o ++ [v]) with ⟨_, h⟩ | ⟨k, _, e, _⟩
  · simp at h
  · omega
theorem reach_app (o r : List Ent) (s : Int) (h : reach o s = true) : reach (o ++ r) s = true := by
  unfold reach at *
  simp only [Bool.or_eq_true, beq_iff_eq, decide_eq_true_eq] at *
  rcases h with h | h
  · exact .inl h
  · exact .inr (by rw [idx_app _ _ _ h]; exact h)
theorem area_app (l : List Ent) (e : Ent) : area (l ++ [e]) = e.1 := by simp [area]

theorem good_area {o : List Ent} (h : Good o) : reach o (area o) = true := by
  cases h with
  | nil => rfl
  | snoc o s x ho h0 h7 hk =>
    rw [area_app]
    cases x with
    | true =>
      unfold reach
      simp only [Bool.or_eq_true, decide_eq_true_eq]
      exact .inr (idx_last _ _)
    | false => exact reach_app _ _ _ hk
theorem good_take {o : List Ent} (h : Good o) : ∀ k, Good (o.take k) := by
  induction h with
  | nil => intro k; simpa using Good.nil
  | snoc o s x ho h0 h7 hk ih =>
    intro k
    rcases Nat.lt_or_ge k (o.length + 1) with h | h
    · rw [List.take_append_of_le_length (by omega)]
      exact ih k
    · rw [List.take_of_length_le (by simp; omega)]
      exact .snoc o s x ho h0 h7 hk
theorem good_pos {o : List Ent} (h : Good o) : ∀ s, (s, true) ∈ o → 0 < s := by
  induction h with
  | nil => intro s h; simp at h
  | snoc o s x ho h0 h7 hk ih =>
    intro t ht
    simp only [List.mem_append, List.mem_singleton, Prod.mk.injEq] at ht
    rcases ht with ht | ⟨rfl, rfl⟩
    · exact ih t ht
    · simp only [keepB, cond_true, Bool.and_eq_true, decide_eq_true_eq] at hk
      exact hk.1

section
variable {w : List Ent} (h : Good w)
include h
theorem good_neg (s : Int) (hs : s ≤ 0) : idx (s, true) w = -1 := by
  rcases idx_cases (s, true) w with ⟨e, _⟩ | ⟨k, hk, e, hv, _⟩
  · exact e
  · have := good_pos h s (List.mem_of_getElem? hv)
    omega
theorem good_par (s : Int) : idx (s, true) w < 0 ∧ par w s = -1 ∨ 0 ≤ idx (s, true) w ∧ (par w s = 0 ∨ 0 ≤ idx (par w s, true) w ∧ idx (par w s, true) w < idx (s, true) w) := by
  by_cases h0 : idx (s, true) w < 0
  · exact .inl ⟨h0, by rw [par, if_pos h0]⟩
  · refine .inr ⟨by omega, ?_⟩
    rw [par, if_neg h0]
    obtain ⟨k, hk⟩ := Int.eq_ofNat_of_zero_le (show 0 ≤ idx (s, true) w by omega)
    rw [hk, Int.toNat_natCast]
    have hr := good_area (good_take h k)
    unfold reach at hr
    simp only [Bool.or_eq_true, beq_iff_eq, decide_eq_true_eq] at hr
    rcases hr with hr | hr
    · exact .inl hr
    · refine .inr ?_
      have e := idx_app (area (w.take k), true) (w.take k) (w.drop k) hr
      rw [List.take_append_drop] at e
      rw [e]
      refine ⟨hr, ?_⟩
      rcases idx_cases (area (w.take k), true) (w.take k) with ⟨e', _⟩ | ⟨j, hj, e', _⟩
      · omega
      · rw [e']
        simp at hj
        omega

theorem up_rank (a : Int) (h0 : a ≠ 0) (h1 : a ≠ -1) (n : Nat) : ∀ b, up w a n b = true → a = b ∨ 0 ≤ idx (a, true) w ∧ idx (a, true) w < idx (b, true) w := by
  induction n with
  | zero => intro b hb; cases hb
  | succ n ih =>
    intro b hb
    rw [up_ref] at hb
    simp only [Bool.or_eq_true, beq_iff_eq] at hb
    rcases hb with hb | hb
    · exact .inl hb.symm
    · have hn := good_neg h (-1) (by omega)
      have hz := good_neg h 0 (by omega)
      refine .inr ?_
      rcases good_par h b with ⟨hb0, hp⟩ | ⟨hb0, hp | hp⟩
      · rw [hp] at hb
        rcases ih _ hb with e | e
        · exact absurd e h1
        · omega
      · rw [hp] at hb
        rcases ih _ hb with e | e
        · exact absurd e h0
        · omega
      · rcases ih _ hb with e | e
        · rw [e]; exact hp
        · omega

theorem up_mono (a : Int) (n : Nat) : ∀ m b, n ≤ m → up w a n b = true → up w a m b = true := by
  induction n with
  | zero => intro m b _ hb; cases hb
  | succ n ih =>
    intro m b hm hb
    obtain ⟨m', rfl⟩ : ∃ m', m = m' + 1 := ⟨m - 1, by omega⟩
    rw [up_ref] at hb ⊢
    simp only [Bool.or_eq_true] at *
    rcases hb with hb | hb
    · exact .inl hb
    · exact .inr (ih m' _ (by omega) hb)

theorem up_short (a : Int) (h0 : a ≠ 0) (h1 : a ≠ -1) (n : Nat) : ∀ b, up w a n b = true → up w a ((idx (b, true) w + 1).toNat + 1) b = true := by
  induction n with
  | zero => intro b hb; cases hb
  | succ n ih =>
    intro b hb
    rw [up_ref] at hb ⊢
    simp only [Bool.or_eq_true, beq_iff_eq] at *
    rcases hb with hb | hb
    · exact .inl hb
    · have hn := good_neg h (-1) (by omega)
      have hz := good_neg h 0 (by omega)
      rcases good_par h b with ⟨hb0, hp⟩ | ⟨hb0, hp | hp⟩
      · rw [hp] at hb
        rcases up_rank h a h0 h1 _ _ hb with e | e
        · exact absurd e h1
        · omega
      · rw [hp] at hb
        rcases up_rank h a h0 h1 _ _ hb with e | e
        · exact absurd e h0
        · omega
      · exact .inr (up_mono h a _ _ _ (by omega) (ih _ hb))

theorem up_trans (a b : Int) (n m : Nat) : ∀ c, up w a n b = true → up w b m c = true → up w a (n + m) c = true := by
  induction m with
  | zero => intro c _ hc; cases hc
  | succ m ih =>
    intro c hb hc
    rw [up_ref] at hc
    simp only [Bool.or_eq_true, beq_iff_eq] at hc
    rcases hc with rfl | hc
    · exact up_mono h a n _ _ (by omega) hb
    · have := ih _ hb hc
      rw [← Nat.add_assoc, up_ref]
      simp only [Bool.or_eq_true]
      exact .inr this

theorem idx_lt5 (hl : w.length ≤ 5) (v : Ent) : idx v w ≤ 4 := by
  rcases idx_cases v w with ⟨e, _⟩ | ⟨k, hk, e, _⟩ <;> omega

theorem above_trans (hl : w.length ≤ 5) (a b c : Int) (ha : 0 ≤ a) (hb : 0 ≤ b) (h1 : above w a b = true) (h2 : above w b c = true) : above w a c = true := by
  unfold above at *
  simp only [Bool.or_eq_true, beq_iff_eq] at *
  rcases h1 with h1 | h1
  · exact .inl h1
  · by_cases ha0 : a = 0
    · exact .inl ha0
    · refine .inr ?_
      have h3 : up w a 9 c = true ∨ up w a (9 + 9) c = true := by
        rcases h2 with rfl | h2
        · exfalso
          rcases up_rank h a ha0 (by omega) _ _ h1 with e | e
          · exact ha0 e
          · have := good_neg h 0 (by omega)
            omega
        · exact .inr (up_trans h a b 9 9 c h1 h2)
      rcases h3 with h3 | h3
      · exact h3
      · exact up_mono h a _ _ _ (by have := idx_lt5 h hl (c, true); omega) (up_short h a ha0 (by omega) _ _ h3)

theorem above_anti (a b : Int) (ha : 0 ≤ a) (hb : 0 ≤ b) (h1 : above w a b = true) (h2 : above w b a = true) : a = b := by
  unfold above at *
  simp only [Bool.or_eq_true, beq_iff_eq] at *
  have hz := good_neg h 0 (by omega)
  have key : ∀ x y : Int, 0 ≤ y → x = 0 → (y = 0 ∨ up w y 9 x = true) → x = y := by
    intro x y hy hx hu
    by_cases hy0 : y = 0
    · omega
    · rcases hu with hu | hu
      · omega
      · rcases up_rank h y hy0 (by omega) _ _ hu with e | e
        · exact e.symm
        · subst hx; omega
  by_cases ha0 : a = 0
  · exact key a b hb ha0 h2
  · by_cases hb0 : b = 0
    · exact (key b a ha hb0 h1).symm
    · rcases h1 with h1 | h1
      · exact absurd h1 ha0
      rcases h2 with h2 | h2
      · exact absurd h2 hb0
      rcases up_rank h a ha0 (by omega) _ _ h1 with e | e
      · exact e
      rcases up_rank h b hb0 (by omega) _ _ h2 with e' | e'
      · exact e'.symm
      omega

theorem above_reach (a b : Int) (ha : 0 ≤ a) (h1 : above w a b = true) (h2 : reach w b = true) : reach w a = true := by
  unfold above at h1
  unfold reach at *
  simp only [Bool.or_eq_true, beq_iff_eq, decide_eq_true_eq] at *
  by_cases ha0 : a = 0
  · exact .inl ha0
  · rcases h1 with h1 | h1
    · exact .inl h1
    · rcases up_rank h a ha0 (by omega) _ _ h1 with e | e
      · rw [e]; exact h2
      · exact .inr e.1
end

theorem above_self (w : List Ent) (a : Int) : above w a a = true := by
  unfold above
  rw [up_ref]
  simp
theorem above_zero (w : List Ent) (a : Int) : above w 0 a = true := rfl

end Go.Proofs.Ytaneokplagdcfaa
