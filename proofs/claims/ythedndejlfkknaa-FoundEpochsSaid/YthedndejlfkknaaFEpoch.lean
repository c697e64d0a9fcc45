/- Layer 14: epochs, and what is made, in plain terms. -/
import Derived.Test.YthedndejlfkknaaFLawPlain
namespace Go.Proofs.Ythedndejlfkknaa
open Go.RowKit
set_option linter.unusedVariables false
set_option linter.unusedSimpArgs false

/-- eight numbers that read as the scopes' epochs, eight bits that read as which there are -/
structure EpR (S : Sco) (E : List Int) (Md : List Bool) (k : Nat) : Prop where
  le : E.length = 8
  lm : Md.length = 8
  at_ : ∀ (j : Nat) x, S.l[j]? = some x → E[j]? = some x.c.ep ∧ Md[j]? = some (!(x.c.st == 0))
  ep : ∀ x ∈ S.l, 0 ≤ x.c.ep ∧ x.c.ep ≤ k
  zero : ∃ z, S.l[0]? = some z ∧ z.c.st = 2
theorem epR_new {s t i h : Int} (H : PlanOk s t i h) : EpR (newS ⟨s, t, i, h⟩) (List.replicate 8 0) (true :: List.replicate 7 false) 0 := by
  have hl : (newS ⟨s, t, i, h⟩).l.length = s.toNat := by have := H.s0; simp [newS]; omega
  have h8 := H.s1
  refine ⟨rfl, rfl, fun j x hx => ?_, fun x hx => ?_, ⟨_, rfl, rfl⟩⟩
  · have hj : j < s.toNat := by rw [← hl]; exact (List.getElem?_eq_some_iff.1 hx).1
    cases j with
    | zero =>
      simp only [newS, List.getElem?_cons_zero] at hx
      injection hx with hx
      subst hx
      exact ⟨rfl, rfl⟩
    | succ j =>
      simp only [newS, List.getElem?_cons_succ, List.getElem?_replicate] at hx
      split at hx
      · injection hx with hx
        subst hx
        refine ⟨by rw [List.getElem?_replicate, if_pos (by omega)]; rfl, ?_⟩
        rw [List.getElem?_cons_succ, List.getElem?_replicate, if_pos (by omega)]
        rfl
      · cases hx
  · simp only [newS, List.mem_cons, List.mem_replicate] at hx
    rcases hx with rfl | ⟨_, rfl⟩
    · simp
    · simp [scFree]
theorem EpR.same {S : Sco} {E : List Int} {Md : List Bool} {k : Nat} (h : EpR S E Md k) : EpR S E Md (k + 1) :=
  { h with ep := fun x hx => by have := h.ep x hx; omega }
theorem EpR.made {S : Sco} {E : List Int} {Md : List Bool} {k : Nat} {n : Int} (h : EpR S E Md k) (h0 : (createS n S).1.2 = 0) :
    ∃ kk : Nat, (createS n S).1.1 = kk ∧ 1 ≤ kk ∧ kk < S.l.length ∧ (∀ j, 1 ≤ j → j < kk → Md[j]? = some true) ∧ Md[kk]? = some false ∧ EpR (createS n S).2 E (Md.set kk true) (k + 1) := by
  obtain ⟨kk, s, h1, h2, h3⟩ := createS_num h0
  obtain ⟨y, h4, _, h5, h6⟩ := findIdx_some h2
  rw [h3] at h4
  injection h4 with h4
  subst h4
  have hst : s.c.st = 0 := by simpa using h5
  have hin : inB n 1 8192 = true := by
    cases hin : inB n 1 8192 with
    | false => rw [createS_bad hin] at h0; cases h0
    | true => rfl
  have hcs := createS_at hin h2 h3
  rw [hcs] at h0
  have hc : (carveF (up8 n) S.F).2.1 = true := by
    split at h0
    · rename_i hc; exact hc
    · cases h0
  rw [if_pos hc] at hcs
  obtain ⟨z, hz, hz2⟩ := h.zero
  have hk1 : 1 ≤ kk := by
    rcases Nat.eq_zero_or_pos kk with h9 | h9
    · subst h9
      rw [h3] at hz
      injection hz with hz
      subst hz
      omega
    · exact h9
  have hkl := (List.getElem?_eq_some_iff.1 h3).1
  refine ⟨kk, h1, hk1, hkl, fun j hj hjk => ?_, ?_, ?_⟩
  · obtain ⟨x, hx⟩ : ∃ x, S.l[j]? = some x := ⟨_, List.getElem?_eq_getElem (by omega)⟩
    have h9 := h6 j x hjk hx
    rw [(h.at_ j x hx).2]
    simpa using h9
  · rw [(h.at_ kk s h3).2, hst]; rfl
  · rw [hcs]
    refine ⟨h.le, by simpa using h.lm, fun j x hx => ?_, fun x hx => ?_, ?_⟩
    · simp only [List.getElem?_set] at hx ⊢
      by_cases e : kk = j
      · subst e
        rw [if_pos rfl, if_pos hkl] at hx
        injection hx with hx
        subst hx
        rw [if_pos rfl, if_pos (by rw [h.lm]; have := (List.getElem?_eq_some_iff.1 (h.at_ kk s h3).2).1; have := h.lm; omega)]
        exact ⟨(h.at_ kk s h3).1, rfl⟩
      · rw [if_neg e] at hx
        rw [if_neg e]
        exact h.at_ j x hx
    · rcases List.mem_or_eq_of_mem_set hx with hx | hx
      · have := h.ep x hx; omega
      · subst hx
        have := h.ep s (List.mem_of_getElem? h3)
        simp only
        omega
    · exact ⟨z, by simp only [List.getElem?_set]; rw [if_neg (by omega)]; exact hz, hz2⟩
theorem EpR.gone {S : Sco} {E : List Int} {Md : List Bool} {k kk : Nat} {f e : Int} (h : EpR S E Md k) (hk : k ≤ 40) (hi : inS kk 1 S = true) (h0 : (destroyS f e kk S).1 = 0) :
    1 ≤ kk ∧ kk < S.l.length ∧ Md[kk]? = some true ∧ ∃ ep, E[kk]? = some ep ∧ (0 ≤ ep ∧ ep ≤ 40) ∧ EpR (destroyS f e kk S).2 (E.set kk (ep + 1)) (Md.set kk false) (k + 1) := by
  obtain ⟨k', s, hkk, hkl, hs⟩ := inS_yes hi (by decide)
  have e1 : kk = k' := by omega
  subst e1
  have hk1 : 1 ≤ kk := by have := inS_low hi; omega
  have hds := destroyS_at (f := f) (e := e) hi hs
  rw [hds] at h0
  have hst : s.c.st = 1 := by
    split at h0
    · cases h0
    · split at h0
      · rename_i h9; exact h9
      · cases h0
  rw [if_neg (by omega), if_pos hst] at hds
  have he := h.ep s (List.mem_of_getElem? hs)
  obtain ⟨hE, hM⟩ := h.at_ kk s hs
  refine ⟨hk1, hkl, by rw [hM, hst]; rfl, s.c.ep, hE, by omega, ?_⟩
  rw [hds]
  refine ⟨by simpa using h.le, by simpa using h.lm, fun j x hx => ?_, fun x hx => ?_, ?_⟩
  · simp only [List.getElem?_set] at hx ⊢
    by_cases e2 : kk = j
    · subst e2
      rw [if_pos rfl, if_pos hkl] at hx
      injection hx with hx
      subst hx
      rw [if_pos rfl, if_pos rfl, if_pos (List.getElem?_eq_some_iff.1 hE).1, if_pos (List.getElem?_eq_some_iff.1 hM).1]
      refine ⟨?_, rfl⟩
      simp only
      congr 1
      omega
    · rw [if_neg e2] at hx
      rw [if_neg e2, if_neg e2]
      exact h.at_ j x hx
  · rcases List.mem_or_eq_of_mem_set hx with hx | hx
    · have := h.ep x hx; omega
    · subst hx
      simp only
      omega
  · obtain ⟨z, hz, hz2⟩ := h.zero
    exact ⟨z, by simp only [List.getElem?_set]; rw [if_neg (by omega)]; exact hz, hz2⟩
abbrev ivA (E : List Int) : Array Value := (E.map (Value.int .i64)).toArray
abbrev bvA (M : List Bool) : Array Value := (M.map Value.bool).toArray
theorem info8i : (Try.prog.info? 51).map (·.size) = some 8 := by kernel_rfl
theorem info8b : (Try.prog.info? 52).map (·.size) = some 8 := by kernel_rfl
theorem ivA_set (E : List Int) (k : Nat) (x : Int) : (ivA E).setIfInBounds k (.int .i64 x) = ivA (E.set k x) := by simp [ivA, List.map_set]
theorem bvA_set (M : List Bool) (k : Nat) (x : Bool) : (bvA M).setIfInBounds k (.bool x) = bvA (M.set k x) := by simp [bvA, List.map_set]
/-- what becomes of the bits, and of the numbers -/
def mdC (mk : Bool) (n : Int) (S : Sco) (bC : Bool) (Md : List Bool) : List Bool := if bC then Md.set (createS (begA mk n) S).1.1.toNat true else Md
def epSome (E : List Int) (k : Nat) : Int := E.getD k 0
theorem epR_step {f e : Int} {mk : Bool} {n : Int} {S : Sco} {E : List Int} {Md : List Bool} {k : Nat} (h : EpR S E Md k) (hk : k ≤ 40) :
    (done14 mk n S = false → EpR (does14 f e mk n S) E Md (k + 1)) ∧
    (done14 mk n S = true → (if mk then (createS (begA mk n) S).1.2 else (destroyS f e (begA mk n) S).1) ≠ 0 → EpR (does14 f e mk n S) E Md (k + 1)) ∧
    (mk = true → (createS (begA mk n) S).1.2 = 0 → ∃ kk : Nat, (createS (begA mk n) S).1.1 = kk ∧ 1 ≤ kk ∧ kk < S.l.length ∧ (∀ j, 1 ≤ j → j < kk → Md[j]? = some true) ∧ Md[kk]? = some false ∧ EpR (does14 f e mk n S) E (Md.set kk true) (k + 1)) ∧
    (mk = false → done14 mk n S = true → (destroyS f e (begA mk n) S).1 = 0 → ∃ kk : Nat, begA mk n = kk ∧ 1 ≤ kk ∧ kk < S.l.length ∧ Md[kk]? = some true ∧ ∃ ep, E[kk]? = some ep ∧ (0 ≤ ep ∧ ep ≤ 40) ∧ EpR (does14 f e mk n S) (E.set kk (ep + 1)) (Md.set kk false) (k + 1)) := by
  refine ⟨fun hd => ?_, fun hd hc => ?_, fun hm hc => ?_, fun hm hd hc => ?_⟩
  · have : does14 f e mk n S = S := (not_done14 (f := f) (e := e) (ws := []) (ch := noS) hd rfl).1
    rw [this]; exact h.same
  · have : does14 f e mk n S = S := by
      unfold does14
      cases mk with
      | true => simp only [if_true] at hc ⊢; exact createS_refused hc
      | false => simp only [Bool.false_eq_true, if_false] at hc ⊢; exact destroyS_refused hc
    rw [this]; exact h.same
  · subst hm
    obtain ⟨kk, h1, h2, h3, h4, h5, h6⟩ := h.made hc
    exact ⟨kk, h1, h2, h3, h4, h5, by unfold does14; rw [if_pos rfl]; exact h6⟩
  · subst hm
    obtain ⟨kk, hkk, _⟩ := begA_nat false n
    have hin : inS (kk : Int) 1 S = true := by rw [← hkk]; exact hd
    rw [hkk] at hc
    obtain ⟨h1, h2, h3, ep, h4, h5, h6⟩ := h.gone (f := f) (e := e) hk hin hc
    exact ⟨kk, hkk, h1, h2, h3, ep, h4, h5, by unfold does14; rw [if_neg (by simp), hkk]; exact h6⟩

end Go.Proofs.Ythedndejlfkknaa
