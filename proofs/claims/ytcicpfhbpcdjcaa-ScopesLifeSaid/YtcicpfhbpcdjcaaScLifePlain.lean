/- How a scope becomes another one. -/
import Derived.Test.YtcicpfhbpcdjcaaScOpen
namespace Go.Proofs.Ytcicpfhbpcdjcaa
open Go.RowKit

/-- how a scope becomes another one -/
def Trans (kd : Int) (s t : Sc) : Prop :=
  (kd = 0 ∧ s.c.st = 0 ∧ t.c.st = 1 ∧ t.c.ep = s.c.ep) ∨ (kd = 1 ∧ s.c.st = 1 ∧ t.c.st = 0 ∧ t.c.ep = (s.c.ep + 1) % 16777216) ∨
  ((kd = 2 ∨ kd = 3) ∧ (s.c.st = 1 ∨ s.c.st = 2) ∧ t.c.st = 2 ∧ t.c.ep = s.c.ep ∧ t.x = s.x) ∨ (kd = 4 ∧ s.c.st = 2 ∧ (t.c.st = 2 ∨ t.c.st = 3) ∧ t.c.ep = s.c.ep ∧ t.x = s.x) ∨
  (kd = 5 ∧ s.c.st = 3 ∧ t.c.st = 1 ∧ t.c.ep = (s.c.ep + 1) % 16777216 ∧ t.x = s.x) ∨ (kd = 6 ∧ s.c.st = 3 ∧ t.c.st = 2 ∧ t.c.ep = s.c.ep ∧ t.x = s.x)
theorem ctlEq_st {a b : Ctl} (h : a.st ≠ b.st) : ctlEq a b = false := by
  simp [ctlEq]
  intro h1
  exact absurd h1 h
theorem ctlEq_n {a b : Ctl} (h : a.n ≠ b.n) : ctlEq a b = false := by
  simp [ctlEq]
  intro _ h1
  exact absurd h1 h

theorem createS_step {n : Int} {S : Sco} {j : Nat} {s t : Sc} (hs : S.l[j]? = some s) (ht : (createS n S).2.l[j]? = some t) :
    t = s ∨ ((createS n S).1.2 = 0 ∧ (j : Int) = (createS n S).1.1 ∧ s.c.st = 0 ∧ t.c.st = 1 ∧ t.c.ep = s.c.ep) := by
  cases hin : inB n 1 8192 with
  | false =>
    rw [createS_bad hin] at ht
    rw [hs] at ht
    injection ht with ht
    exact .inl ht.symm
  | true =>
    cases hf : freeAt S.l with
    | none =>
      rw [createS_many hin hf] at ht
      rw [hs] at ht
      injection ht with ht
      exact .inl ht.symm
    | some i =>
      obtain ⟨y, h1, _, h2, _⟩ := findIdx_some hf
      rw [createS_at hin hf h1] at ht ⊢
      split at ht
      · rename_i hc
        rw [if_pos hc]
        simp only [List.getElem?_set] at ht
        split at ht
        · rename_i hij
          subst hij
          rw [hs] at h1
          injection h1 with h1
          subst h1
          injection ht with ht
          subst ht
          exact .inr ⟨rfl, rfl, by simpa using h2, rfl, rfl⟩
        · rw [hs] at ht
          injection ht with ht
          exact .inl ht.symm
      · simp only [hs] at ht
        injection ht with ht
        exact .inl ht.symm
theorem destroyS_step {f e i : Int} {S : Sco} {j : Nat} {s t : Sc} (hs : S.l[j]? = some s) (ht : (destroyS f e i S).2.l[j]? = some t) :
    t = s ∨ ((destroyS f e i S).1 = 0 ∧ (j : Int) = i ∧ s.c.st = 1 ∧ t.c.st = 0 ∧ t.c.ep = (s.c.ep + 1) % 16777216) := by
  cases hin : inS i 1 S with
  | false =>
    rw [destroyS_out hin] at ht
    simp only [hs] at ht
    injection ht with ht
    exact .inl ht.symm
  | true =>
    obtain ⟨k, y, rfl, hk, hy⟩ := inS_yes hin (by omega)
    rw [destroyS_at hin hy] at ht ⊢
    split at ht
    · simp only [hs] at ht
      injection ht with ht
      exact .inl ht.symm
    · rename_i h0
      rw [if_neg h0]
      split at ht
      · rename_i h1
        rw [if_pos h1]
        simp only [List.getElem?_set] at ht
        split at ht
        · rename_i hij
          subst hij
          rw [hs] at hy
          injection hy with hy
          subst hy
          injection ht with ht
          subst ht
          exact .inr ⟨rfl, rfl, h1, rfl, rfl⟩
        · rw [hs] at ht
          injection ht with ht
          exact .inl ht.symm
      · simp only [hs] at ht
        injection ht with ht
        exact .inl ht.symm
theorem changeS_step {h : Ctl → Ctl × Int} {i : Int} {S : Sco} {j : Nat} {s t : Sc} (hs : S.l[j]? = some s) (ht : (changeS h i S).2.l[j]? = some t) :
    t = s ∨ ((changeS h i S).1 = 0 ∧ (j : Int) = i ∧ (h s.c).2 = 0 ∧ t = ⟨(h s.c).1, s.x⟩) := by
  cases hin : inS i 1 S with
  | false =>
    unfold changeS at ht
    rw [if_pos hin] at ht
    simp only [hs] at ht
    injection ht with ht
    exact .inl ht.symm
  | true =>
    obtain ⟨k, y, rfl, hk, hy⟩ := inS_yes hin (by omega)
    have hc : changeS h k S = if (h y.c).2 = 0 then (0, ⟨S.l.set k ⟨(h y.c).1, y.x⟩, S.F⟩) else ((h y.c).2, S) := by
      unfold changeS; rw [if_neg (by rw [hin]; simp), Int.toNat_natCast]; simp only [hy]
    rw [hc] at ht ⊢
    split at ht
    · rename_i h0
      rw [if_pos h0]
      simp only [List.getElem?_set] at ht
      split at ht
      · rename_i hij
        subst hij
        rw [hs] at hy
        injection hy with hy
        subst hy
        injection ht with ht
        exact .inr ⟨rfl, rfl, h0, ht.symm⟩
      · rw [hs] at ht
        injection ht with ht
        exact .inl ht.symm
    · simp only [hs] at ht
      injection ht with ht
      exact .inl ht.symm
theorem enter_step {c : Ctl} {m : Int} (h : (enter c m).2 = 0) : (c.st = 1 ∨ c.st = 2) ∧ (enter c m).1.st = 2 ∧ (enter c m).1.ep = c.ep ∧ ctlEq (enter c m).1 c = false := by
  unfold enter at h ⊢
  split at h
  · cases h
  · rename_i h1
    rw [if_neg h1]
    simp only [Classical.not_not] at h1
    obtain ⟨⟨r1, r2, r3⟩, k0, k7⟩ := h1
    split at h
    · cases h
    · rename_i h2
      rw [if_neg h2]
      split at h
      · cases h
      · rename_i h3
        rw [if_neg h3]
        split at h
        · rename_i h4
          rw [if_pos h4]
          exact ⟨.inl h4, rfl, rfl, ctlEq_st (by rw [h4]; exact (show (2 : Int) ≠ 1 by decide))⟩
        · rename_i h4
          rw [if_neg h4]
          split at h
          · cases h
          · rename_i h5
            rw [if_neg h5]
            split at h
            · cases h
            · rename_i h6
              rw [if_neg h6]
              have h7 : c.st = 2 := by omega
              exact ⟨.inr h7, h7, rfl, ctlEq_n (by show c.n + 1 ≠ c.n; omega)⟩
theorem leave_step {c : Ctl} (h : (leave c).2 = 0) : c.st = 2 ∧ ((leave c).1.st = 2 ∨ (leave c).1.st = 3) ∧ (leave c).1.ep = c.ep ∧ ctlEq (leave c).1 c = false := by
  unfold leave at h ⊢
  split at h
  · rename_i h1; exact absurd h h1
  · rename_i h1
    rw [if_neg h1]
    obtain ⟨_, h2⟩ := ofState_zero h1
    refine ⟨h2, ?_, rfl, ctlEq_n (by show c.n - 1 ≠ c.n; omega)⟩
    show (if c.n = 1 then 3 else c.st) = 2 ∨ (if c.n = 1 then 3 else c.st) = 3
    split
    · exact .inr rfl
    · exact .inl h2
theorem open_step {c : Ctl} (h : (openC c).2 = 0) : c.st = 3 ∧ (openC c).1.st = 1 ∧ (openC c).1.ep = (c.ep + 1) % 16777216 ∧ ctlEq (openC c).1 c = false := by
  unfold openC at h ⊢
  split at h
  · rename_i h1; exact absurd h h1
  · rename_i h1
    rw [if_neg h1]
    obtain ⟨_, h2⟩ := ofState_zero h1
    exact ⟨h2, rfl, rfl, ctlEq_st (by rw [h2]; exact (show (1 : Int) ≠ 3 by decide))⟩
theorem hold_step {c : Ctl} (h : (hold c).2 = 0) : c.st = 3 ∧ (hold c).1.st = 2 ∧ (hold c).1.ep = c.ep ∧ ctlEq (hold c).1 c = false := by
  unfold hold at h ⊢
  split at h
  · rename_i h1; exact absurd h h1
  · rename_i h1
    rw [if_neg h1]
    obtain ⟨_, h2⟩ := ofState_zero h1
    exact ⟨h2, rfl, rfl, ctlEq_st (by rw [h2]; exact (show (2 : Int) ≠ 3 by decide))⟩
theorem doesS_step {f e k i n : Int} {S : Sco} {j : Nat} {s t : Sc} (hs : S.l[j]? = some s) : (doesS f e (k, i, n) S).2.l[j]? = some t →
    t = s ∨ (ctlEq t.c s.c = false ∧ (doesS f e (k, i, n) S).1.2 = 0 ∧ (j : Int) = (if k % 7 = 0 then (doesS f e (k, i, n) S).1.1 else i) ∧ Trans (k % 7) s t) := by
  refine doesS_cases f e k i n S (fun r => r.2.l[j]? = some t → t = s ∨ (ctlEq t.c s.c = false ∧ r.1.2 = 0 ∧ (j : Int) = (if k % 7 = 0 then r.1.1 else i) ∧ Trans (k % 7) s t)) ?_ ?_ ?_ ?_ ?_ ?_
  · intro hk ht
    refine (createS_step hs ht).imp id (fun ⟨h1, h2, h3, h4, h5⟩ => ⟨ctlEq_st (by omega), h1, by rw [if_pos hk]; exact h2, .inl ⟨hk, h3, h4, h5⟩⟩)
  · intro hk ht
    refine (destroyS_step hs ht).imp id (fun ⟨h1, h2, h3, h4, h5⟩ => ⟨ctlEq_st (by omega), h1, by rw [if_neg (by omega)]; exact h2, .inr (.inl ⟨hk, h3, h4, h5⟩)⟩)
  · intro hk ht
    refine (changeS_step hs ht).imp id (fun ⟨h1, h2, h3, h4⟩ => ?_)
    subst h4
    obtain ⟨a1, a2, a3, a4⟩ := enter_step h3
    exact ⟨a4, h1, by rw [if_neg (by omega)]; exact h2, .inr (.inr (.inl ⟨hk, a1, a2, a3, rfl⟩))⟩
  · intro hk ht
    refine (changeS_step hs ht).imp id (fun ⟨h1, h2, h3, h4⟩ => ?_)
    subst h4
    obtain ⟨a1, a2, a3, a4⟩ := leave_step h3
    exact ⟨a4, h1, by rw [if_neg (by omega)]; exact h2, .inr (.inr (.inr (.inl ⟨hk, a1, a2, a3, rfl⟩)))⟩
  · intro hk ht
    refine (changeS_step hs ht).imp id (fun ⟨h1, h2, h3, h4⟩ => ?_)
    subst h4
    obtain ⟨a1, a2, a3, a4⟩ := open_step h3
    exact ⟨a4, h1, by rw [if_neg (by omega)]; exact h2, .inr (.inr (.inr (.inr (.inl ⟨hk, a1, a2, a3, rfl⟩))))⟩
  · intro hk ht
    refine (changeS_step hs ht).imp id (fun ⟨h1, h2, h3, h4⟩ => ?_)
    subst h4
    obtain ⟨a1, a2, a3, a4⟩ := hold_step h3
    exact ⟨a4, h1, by rw [if_neg (by omega)]; exact h2, .inr (.inr (.inr (.inr (.inr ⟨hk, a1, a2, a3, rfl⟩))))⟩

end Go.Proofs.Ytcicpfhbpcdjcaa
