/- ScopesApart in plain terms: the extents of scopes that are made are apart, and with what is free all of the heap. No program in sight. -/
import Derived.Test.YtcicpfhbpcdjcaaScLifePlain
import Derived.Test.YtcicpfhbpcdjcaaGroundRefPlain
namespace Go.Proofs.Ytcicpfhbpcdjcaa
open Go.RowKit

def inX (x : Ext) (j : Int) : Prop := x.1 ≤ j ∧ j < x.1 + x.2
theorem inX_zero (j : Int) : ¬ inX (0, 0) j := by rintro ⟨h1, h2⟩; simp only at h1 h2; omega

structure Til (f e : Int) (S : Sco) : Prop where
  can : Canon f e S.F
  zero : ∃ z, S.l[0]? = some z ∧ z.c.st = 2
  own : ∀ k s, 1 ≤ k → S.l[k]? = some s → (s.c.st = 0 ∧ s.x = (0, 0)) ∨ (s.c.st = 1 ∧ Fits f e s.x)
  apart : ∀ i k s t, 1 ≤ i → 1 ≤ k → i ≠ k → S.l[i]? = some s → S.l[k]? = some t → ∀ j, inX s.x j → ¬ inX t.x j
  free : ∀ k s, 1 ≤ k → S.l[k]? = some s → ∀ j, inX s.x j → ¬ cov S.F j
  whole : ∀ j, f ≤ j → j < e → cov S.F j ∨ ∃ k s, 1 ≤ k ∧ S.l[k]? = some s ∧ inX s.x j

theorem til_create {f e n : Int} {S : Sco} (h : Til f e S) : Til f e (createS n S).2 := by
  cases hin : inB n 1 8192 with
  | false => rw [createS_bad hin]; exact h
  | true =>
    cases hf : freeAt S.l with
    | none => rw [createS_many hin hf]; exact h
    | some i =>
      obtain ⟨y, h1, _, h2, _⟩ := findIdx_some hf
      rw [createS_at hin hf h1]
      split
      · rename_i hc
        have hy : y.c.st = 0 := by simpa using h2
        obtain ⟨z, hz, hz2⟩ := h.zero
        have hi0 : i ≠ 0 := by
          rintro rfl
          rw [hz] at h1
          injection h1 with h1
          subst h1
          omega
        have hil : i < S.l.length := (List.getElem?_eq_some_iff.1 h1).1
        have hyx : y.x = (0, 0) := by
          rcases h.own i y (by omega) h1 with ⟨_, k⟩ | ⟨k, _⟩
          · exact k
          · omega
        obtain ⟨n1, n8, g3, g4, g5, g6, g7⟩ := carve_got h.can hc
        obtain ⟨a, ha⟩ : ∃ a, (carveF (up8 n) S.F).1 = a := ⟨_, rfl⟩
        obtain ⟨F, hF⟩ : ∃ F, (carveF (up8 n) S.F).2.2 = F := ⟨_, rfl⟩
        rw [ha] at g4 g6 g7
        rw [hF] at g3 g5 g6 g7
        simp only [ha, hF]
        have hset : ∀ k s, (S.l.set i ⟨⟨1, y.c.n, y.c.p, y.c.ep⟩, (a, up8 n)⟩)[k]? = some s → (k = i ∧ s = ⟨⟨1, y.c.n, y.c.p, y.c.ep⟩, (a, up8 n)⟩) ∨ (k ≠ i ∧ S.l[k]? = some s) := by
          intro k s hs
          rw [List.getElem?_set] at hs
          by_cases hk : i = k
          · subst hk
            rw [if_pos rfl] at hs
            rw [if_pos (List.getElem?_eq_some_iff.1 h1).1] at hs
            injection hs with hs
            exact .inl ⟨rfl, hs.symm⟩
          · rw [if_neg hk] at hs
            exact .inr ⟨fun e => hk e.symm, hs⟩
        refine ⟨g3, ⟨z, by rw [List.getElem?_set, if_neg hi0]; exact hz, hz2⟩, ?_, ?_, ?_, ?_⟩
        · intro k s hk hs
          rcases hset k s hs with ⟨rfl, rfl⟩ | ⟨_, hs⟩
          · exact .inr ⟨rfl, g4⟩
          · exact h.own k s hk hs
        · intro p k s t hp hk hpk hs ht j hj hj2
          rcases hset p s hs with ⟨e1, e2⟩ | ⟨_, hs'⟩
          · rcases hset k t ht with ⟨e3, _⟩ | ⟨_, ht'⟩
            · exact hpk (e1.trans e3.symm)
            · rw [e2] at hj
              exact h.free k t hk ht' j hj2 ((g6 j).2 (.inr hj))
          · rcases hset k t ht with ⟨_, e4⟩ | ⟨_, ht'⟩
            · rw [e4] at hj2
              exact h.free p s hp hs' j hj ((g6 j).2 (.inr hj2))
            · exact h.apart p k s t hp hk hpk hs' ht' j hj hj2
        · intro k s hk hs j hj hc2
          rcases hset k s hs with ⟨rfl, rfl⟩ | ⟨_, hs⟩
          · exact g7 j hc2 hj
          · exact h.free k s hk hs j hj ((g6 j).2 (.inl hc2))
        · intro j j1 j2
          rcases h.whole j j1 j2 with hj | ⟨k, s, hk, hs, hj⟩
          · rcases (g6 j).1 hj with hj | hj
            · exact .inl hj
            · exact .inr ⟨i, ⟨⟨1, y.c.n, y.c.p, y.c.ep⟩, (a, up8 n)⟩, by omega, by rw [List.getElem?_set, if_pos rfl, if_pos hil], hj⟩
          · have hki : i ≠ k := by
              rintro rfl
              rw [h1] at hs
              injection hs with hs
              subst hs
              rw [hyx] at hj
              exact inX_zero j hj
            exact .inr ⟨k, s, hk, by rw [List.getElem?_set, if_neg hki]; exact hs, hj⟩
      · exact h

theorem til_destroy {f e i : Int} {S : Sco} (h : Til f e S) : Til f e (destroyS f e i S).2 := by
  cases hin : inS i 1 S with
  | false => rw [destroyS_out hin]; exact h
  | true =>
    obtain ⟨k, y, rfl, hk, hy⟩ := inS_yes hin (by omega)
    have hk1 : 1 ≤ k := by
      have := inS_low hin
      omega
    rw [destroyS_at hin hy]
    split
    · exact h
    · split
      · rename_i h0 h1
        have hfit : Fits f e y.x := by
          rcases h.own k y hk1 hy with ⟨h2, _⟩ | ⟨_, h2⟩
          · omega
          · exact h2
        obtain ⟨g1, g2, g3⟩ := give_got (a := y.x.1) (n := y.x.2) h.can hfit (fun j j1 j2 => h.free k y hk1 hy j ⟨j1, j2⟩)
        rw [g1]
        obtain ⟨F, hF⟩ : ∃ F, joins (giveAll y.x.1 y.x.2 S.F) = F := ⟨_, rfl⟩
        rw [hF] at g2 g3
        simp only [hF]
        obtain ⟨z, hz, hz2⟩ := h.zero
        have hset : ∀ p s, (S.l.set k ⟨⟨0, 0, -1, (y.c.ep + 1) % 16777216⟩, (0, 0)⟩)[p]? = some s → (p = k ∧ s = ⟨⟨0, 0, -1, (y.c.ep + 1) % 16777216⟩, (0, 0)⟩) ∨ (p ≠ k ∧ S.l[p]? = some s) := by
          intro p s hs
          rw [List.getElem?_set] at hs
          by_cases hk : k = p
          · subst hk
            rw [if_pos rfl] at hs
            rw [if_pos (List.getElem?_eq_some_iff.1 hy).1] at hs
            injection hs with hs
            exact .inl ⟨rfl, hs.symm⟩
          · rw [if_neg hk] at hs
            exact .inr ⟨fun e => hk e.symm, hs⟩
        refine ⟨g2, ⟨z, by rw [List.getElem?_set, if_neg (by omega)]; exact hz, hz2⟩, ?_, ?_, ?_, ?_⟩
        · intro p s hp hs
          rcases hset p s hs with ⟨rfl, rfl⟩ | ⟨_, hs⟩
          · exact .inl ⟨rfl, rfl⟩
          · exact h.own p s hp hs
        · intro p q s t hp hq hpq hs ht j hj hj2
          rcases hset p s hs with ⟨rfl, rfl⟩ | ⟨_, hs⟩
          · exact inX_zero j hj
          · rcases hset q t ht with ⟨rfl, rfl⟩ | ⟨_, ht⟩
            · exact inX_zero j hj2
            · exact h.apart p q s t hp hq hpq hs ht j hj hj2
        · intro p s hp hs j hj hc2
          rcases hset p s hs with ⟨rfl, rfl⟩ | ⟨hpk, hs⟩
          · exact inX_zero j hj
          · rcases (g3 j).1 hc2 with hc2 | hc2
            · exact h.free p s hp hs j hj hc2
            · exact h.apart p k s y hp hk1 hpk hs hy j hj hc2
        · intro j j1 j2
          rcases h.whole j j1 j2 with hj | ⟨p, s, hp, hs, hj⟩
          · exact .inl ((g3 j).2 (.inl hj))
          · by_cases hpk : k = p
            · subst hpk
              rw [hy] at hs
              injection hs with hs
              subst hs
              exact .inl ((g3 j).2 (.inr hj))
            · exact .inr ⟨p, s, hp, by rw [List.getElem?_set, if_neg hpk]; exact hs, hj⟩
      · exact h

/-- behind an unmaking it is free -/
theorem til_freed {f e : Int} {k : Nat} {S : Sco} {s : Sc} (h : Til f e S) (hk : 1 ≤ k) (hs : (destroyS f e k S).2.l[k]? = some s) : s.c.st = 0 := by
  have hkl : k < S.l.length := by
    have := (List.getElem?_eq_some_iff.1 hs).1
    rw [destroyS_len] at this
    exact this
  obtain ⟨y, hy⟩ : ∃ y, S.l[k]? = some y := ⟨_, List.getElem?_eq_getElem hkl⟩
  have hin : inS k 1 S = true := by
    unfold inS inB
    simp
    omega
  rw [destroyS_at hin hy] at hs
  rcases h.own k y hk hy with ⟨h1, _⟩ | ⟨h1, _⟩
  · rw [if_pos h1] at hs
    simp only [hy] at hs
    injection hs with hs
    subst hs
    exact h1
  · rw [if_neg (by omega), if_pos h1] at hs
    simp only [List.getElem?_set, if_pos, hkl] at hs
    injection hs with hs
    subst hs
    rfl

/-- all are free: what is free is the whole -/
theorem til_whole {f e : Int} {S : Sco} (h : Til f e S) (h8 : f % 8 = 0) (h9 : e % 8 = 0) (ha : ∀ k s, 1 ≤ k → S.l[k]? = some s → s.c.st = 0) : S.F = if f < e then [(f, e - f)] else [] := by
  have hc : ∀ j, cov S.F j ↔ f ≤ j ∧ j < e := by
    intro j
    constructor
    · exact fun hj => h.can.low hj
    · rintro ⟨j1, j2⟩
      rcases h.whole j j1 j2 with hj | ⟨k, s, hk, hs, hj⟩
      · exact hj
      · exfalso
        have := ha k s hk hs
        rcases h.own k s hk hs with ⟨_, hx⟩ | ⟨h1, _⟩
        · rw [hx] at hj
          exact inX_zero j hj
        · omega
  split
  · rename_i hfe
    refine h.can.unique (m := [(f, e - f)]) (lo' := f) ⟨Int.le_refl _, by simp; omega, by simp; omega, by simp; omega, by simp; omega, trivial⟩ fun j => ?_
    rw [hc, cov_cons]
    simp only [cov_nil, or_false]
    omega
  · rename_i hfe
    refine h.can.unique (m := []) (lo' := f) trivial fun j => ?_
    rw [hc]
    constructor
    · intro _
      omega
    · exact fun hj => absurd hj (cov_nil j)

theorem til_new {n : Nat} {t i m : Int} (m0 : 0 ≤ m) (i8 : i % 8 = 0) (m8 : m % 8 = 0) : Til ((n : Int) * 64 + i) ((n : Int) * 64 + i + m) (newS ⟨n, t, i, m⟩) := by
  have hF : (newS ⟨n, t, i, m⟩).F = if m = 0 then [] else [((n : Int) * 64 + i, m)] := rfl
  have hs : ∀ k s, 1 ≤ k → (newS ⟨n, t, i, m⟩).l[k]? = some s → s.c.st = 0 ∧ s.x = (0, 0) := by
    intro k s hk h
    simp only [newS] at h
    rw [List.getElem?_cons] at h
    rw [if_neg (by omega)] at h
    rw [List.getElem?_replicate] at h
    split at h
    · injection h with h
      subst h
      exact ⟨rfl, rfl⟩
    · cases h
  refine ⟨?_, ⟨_, rfl, rfl⟩, fun k s hk h => .inl (hs k s hk h), fun p q s t' hp hq hpq h1 h2 j hj => ?_, fun k s hk h j hj => ?_, fun j j1 j2 => .inl ?_⟩
  · rw [hF]
    split
    · trivial
    · exact ⟨Int.le_refl _, by simp; omega, by simp; omega, by simp; omega, by simp, trivial⟩
  · rw [(hs p s hp h1).2] at hj
    exact absurd hj (inX_zero j)
  · rw [(hs k s hk h).2] at hj
    exact absurd hj (inX_zero j)
  · rw [hF, if_neg (by omega)]
    exact ⟨_, List.mem_singleton.2 rfl, j1, j2⟩

/-- words that are told to be used -/
structure Used (f : Int) (u : List Bool) (P : Int → Prop) : Prop where
  len : u.length = 128
  cov : ∀ j, wcov f u j ↔ P j
theorem Used.iff {f : Int} {u : List Bool} {P Q : Int → Prop} (h : Used f u P) (k : ∀ j, P j ↔ Q j) : Used f u Q := ⟨h.len, fun j => (h.cov j).trans (k j)⟩
theorem used_init (f : Int) (P : Int → Prop) (h : ∀ j, ¬ P j) : Used f (List.replicate 128 false) P := ⟨by simp, fun j => by
  constructor
  · rintro ⟨i, hi, _⟩
    rw [List.getElem?_replicate] at hi
    split at hi <;> cases hi
  · exact fun hj => absurd hj (h j)⟩
theorem used_step {f e : Int} {x : Ext} {u : List Bool} {P Q : Int → Prop} (h : Used f u P) (hx : Fits f e x) (h8 : f % 8 = 0) (he : e - f ≤ 1024) (hn : ∀ j, inX x j → ¬ P j) (hQ : ∀ j, (P j ∨ inX x j) ↔ Q j) :
    ∃ i m : Nat, x.1 = f + 8 * (i : Int) ∧ x.2 = 8 * (m : Int) ∧ i + m ≤ 128 ∧ (∀ j, i ≤ j → j < i + m → u[j]? = some false) ∧ Used f (setB u i true m) Q := by
  obtain ⟨g1, g2, g3, g4, g5⟩ := hx
  have hul := h.len
  obtain ⟨i, hi⟩ : ∃ i : Nat, x.1 = f + 8 * (i : Int) := ⟨((x.1 - f) / 8).toNat, by omega⟩
  obtain ⟨m, hm⟩ : ∃ m : Nat, x.2 = 8 * (m : Int) := ⟨(x.2 / 8).toNat, by omega⟩
  have him : i + m ≤ 128 := by omega
  refine ⟨i, m, hi, hm, him, fun j j1 j2 => ?_, by rw [setB_len]; exact hul, fun j => ?_⟩
  · cases hv : u[j]? with
    | none => simp at hv; omega
    | some v =>
      cases v with
      | false => rfl
      | true => exact absurd ((h.cov (f + 8 * (j : Int))).1 ⟨j, hv, by omega, by omega⟩) (hn _ ⟨by omega, by omega⟩)
  · rw [wcov_set h8 hi hm (by omega), ← hQ, h.cov]
    unfold inX
    split
    · rename_i hj
      simp [hj]
    · rename_i hj
      simp [hj]
theorem used_all {f e : Int} {u : List Bool} {P : Int → Prop} (h : Used f u P) (hP : ∀ j, f ≤ j → j < e → P j) {n : Nat} (hn : f + 8 * (n : Int) < e) : u[n]? = some true := by
  obtain ⟨i, hi, h1, h2⟩ := (h.cov _).2 (hP (f + 8 * (n : Int)) (by omega) hn)
  have : i = n := by omega
  subst this
  exact hi

/-- what the scopes below the k-th one have -/
def upto (S : Sco) (k : Nat) (j : Int) : Prop := ∃ i s, 1 ≤ i ∧ i < k ∧ S.l[i]? = some s ∧ inX s.x j
theorem upto_one (S : Sco) (j : Int) : ¬ upto S 1 j := by rintro ⟨i, s, h1, h2, _⟩; omega
theorem upto_next {S : Sco} {k : Nat} {s : Sc} (hk : 1 ≤ k) (hs : S.l[k]? = some s) (j : Int) : (upto S k j ∨ inX s.x j) ↔ upto S (k + 1) j := by
  constructor
  · rintro (⟨i, t, h1, h2, h3, h4⟩ | hj)
    · exact ⟨i, t, h1, by omega, h3, h4⟩
    · exact ⟨k, s, hk, by omega, hs, hj⟩
  · rintro ⟨i, t, h1, h2, h3, h4⟩
    by_cases hik : i = k
    · subst hik
      rw [hs] at h3
      injection h3 with h3
      subst h3
      exact .inr h4
    · exact .inl ⟨i, t, h1, by omega, h3, h4⟩
theorem upto_none {S : Sco} {k : Nat} {s : Sc} (hk : 1 ≤ k) (hs : S.l[k]? = some s) (hx : s.x = (0, 0)) (j : Int) : upto S k j ↔ upto S (k + 1) j := by
  rw [← upto_next hk hs, hx]
  exact ⟨.inl, fun h => h.elim id fun h => absurd h (inX_zero j)⟩
theorem til_apart {f e : Int} {S : Sco} (h : Til f e S) {k : Nat} {s : Sc} (hk : 1 ≤ k) (hs : S.l[k]? = some s) (j : Int) (hj : inX s.x j) : ¬ upto S k j := by
  rintro ⟨i, t, h1, h2, h3, h4⟩
  exact h.apart i k t s h1 hk (by omega) h3 hs j h4 hj
theorem til_free {f e : Int} {S : Sco} (h : Til f e S) {k : Nat} {x : Ext} (hx : S.F[k]? = some x) (j : Int) (hj : inX x j) : ¬ (upto S S.l.length j ∨ cov (S.F.take k) j) := by
  have hmem := List.mem_of_getElem? hx
  rintro (⟨i, t, h1, h2, h3, h4⟩ | ⟨y, hy, y1, y2⟩)
  · exact h.free i t h1 h3 j h4 ⟨x, hmem, hj⟩
  · have hp := h.can.pair
    obtain ⟨i, hi, rfl⟩ := List.getElem_of_mem hy
    rw [List.length_take] at hi
    rw [List.getElem_take] at y1 y2
    obtain ⟨hk, rfl⟩ := List.getElem?_eq_some_iff.1 hx
    rw [List.pairwise_iff_getElem] at hp
    have := hp i k (by omega) hk (by omega)
    have := hj.1
    omega
theorem free_next {S : Sco} {k : Nat} {x : Ext} (hx : S.F[k]? = some x) (j : Int) : ((upto S S.l.length j ∨ cov (S.F.take k) j) ∨ inX x j) ↔ (upto S S.l.length j ∨ cov (S.F.take (k + 1)) j) := by
  obtain ⟨hk, rfl⟩ := List.getElem?_eq_some_iff.1 hx
  rw [List.take_succ_eq_append_getElem hk, cov_append, cov_cons]
  simp only [cov_nil, or_false, or_assoc]
  exact Iff.rfl
theorem til_all {f e : Int} {S : Sco} (h : Til f e S) (j : Int) (j1 : f ≤ j) (j2 : j < e) : upto S S.l.length j ∨ cov (S.F.take S.F.length) j := by
  rw [List.take_length]
  rcases h.whole j j1 j2 with hj | ⟨k, s, hk, hs, hj⟩
  · exact .inr hj
  · exact .inl ⟨k, s, hk, (List.getElem?_eq_some_iff.1 hs).1, hs, hj⟩

/-- one scope's words, among those that are used -/
theorem til_spec {f e : Int} {S : Sco} {u : List Bool} {k : Nat} {s : Sc} (h : Til f e S) (hk : 1 ≤ k) (hs : S.l[k]? = some s) (hU : Used f u (upto S k)) (h8 : f % 8 = 0) (he : e - f ≤ 1024) :
    ∃ ii mm : Nat, s.x.2 = 8 * (mm : Int) ∧ (0 < mm → s.x.1 = f + 8 * (ii : Int)) ∧ ii + mm ≤ 128 ∧ (∀ j, ii ≤ j → j < ii + mm → u[j]? = some false) ∧ Used f (setB u ii true mm) (upto S (k + 1)) ∧
      ((s.c.st = 0 ∧ s.x = (0, 0) ∧ mm = 0) ∨ (s.c.st = 1 ∧ 0 < s.x.2 ∧ f ≤ s.x.1 ∧ s.x.1 + s.x.2 ≤ e)) := by
  rcases h.own k s hk hs with ⟨h1, h2⟩ | ⟨h1, h2⟩
  · refine ⟨0, 0, by rw [h2]; rfl, fun h => absurd h (by omega), by omega, fun j j1 j2 => by omega, ?_, .inl ⟨h1, h2, rfl⟩⟩
    exact hU.iff (upto_none hk hs h2)
  · obtain ⟨i, m, a1, a2, a3, a4, a5⟩ := used_step hU h2 h8 he (til_apart h hk hs) (upto_next hk hs)
    obtain ⟨g1, g2, g3, g4, g5⟩ := h2
    exact ⟨i, m, a2, fun _ => a1, a3, a4, a5, .inr ⟨h1, g2, g1, g5⟩⟩
theorem free_spec {f e : Int} {S : Sco} {u : List Bool} {k : Nat} {x : Ext} (h : Til f e S) (hx : S.F[k]? = some x) (hU : Used f u (fun j => upto S S.l.length j ∨ cov (S.F.take k) j)) (h8 : f % 8 = 0) (he : e - f ≤ 1024) :
    ∃ ii mm : Nat, x.2 = 8 * (mm : Int) ∧ x.1 = f + 8 * (ii : Int) ∧ ii + mm ≤ 128 ∧ (∀ j, ii ≤ j → j < ii + mm → u[j]? = some false) ∧ Used f (setB u ii true mm) (fun j => upto S S.l.length j ∨ cov (S.F.take (k + 1)) j) ∧
      f ≤ x.1 ∧ x.1 + x.2 ≤ e := by
  have hm := h.can.mem (List.mem_of_getElem? hx)
  obtain ⟨i, m, a1, a2, a3, a4, a5⟩ := used_step hU hm h8 he (til_free h hx) (free_next hx)
  obtain ⟨g1, g2, g3, g4, g5⟩ := hm
  exact ⟨i, m, a2, a1, a3, a4, a5, g1, g5⟩
theorem til_more {f e : Int} {k : Nat} {S : Sco} (h : Til f e S) (hk : 1 ≤ k) (ha : ∀ i s, 1 ≤ i → i < k → S.l[i]? = some s → s.c.st = 0) : ∀ i s, 1 ≤ i → i < k + 1 → (destroyS f e k S).2.l[i]? = some s → s.c.st = 0 := by
  intro i s hi hik hs
  by_cases e1 : i = k
  · subst e1
    exact til_freed h hk hs
  · rw [destroyS_other (by omega)] at hs
    exact ha i s hi (by omega) hs

end Go.Proofs.Ytcicpfhbpcdjcaa
