/- Layer 18: some who leave a scope at once: in plain terms, and a step of one of them in memory. Layer 18 in plain terms: that those who leave at once come to an end: a row of 64, then in turn. Layer 18: a step of one of those who leave a scope at once, in memory. Layer 18: the walk of LeaveOnce. (Printed by gen_lc18.py.) -/
import Derived.Test.YtbijaloeilnjoaaGreatLw
namespace Go.Proofs.YtbijaloeilnjoaaGreat
open Go.RowKit
set_option linter.unusedVariables false
set_option linter.unusedSimpArgs false

/-- where one stands: t is 0 (about to look), 1 (about to leave, of m within), 2 (told), 3 (the last one, behind m steps), 4 (the last one, told) -/
structure St where
 t : Nat
 m : Nat
def St.dn (s : St) : Prop := s.t = 2 ∨ s.t = 4
instance (s : St) : Decidable s.dn := by unfold St.dn; infer_instance
/-- what becomes of it in a step: N steps the last one takes, L are within -/
def stN (N L : Nat) (s : St) : St :=
 if s.t = 0 then ⟨1, L⟩ else if s.t = 1 then (if s.m = L then (if L = 1 then ⟨3, 0⟩ else ⟨2, 0⟩) else ⟨0, 0⟩) else if s.t = 3 then (if s.m + 1 < N then ⟨3, s.m + 1⟩ else ⟨4, 0⟩) else s
def stL (N L : Nat) (s : St) : Nat := if s.t = 1 ∧ s.m = L ∧ L ≠ 1 ∨ s.t = 3 ∧ ¬ s.m + 1 < N then L - 1 else L
/-- the phase: the last one's place, if there is one -/
def stP (N L : Nat) (s ph : St) : St := if s.t = 1 ∧ s.m = L ∧ L = 1 ∨ s.t = 3 then stN N L s else ph
def wt (N L : Nat) (s : St) : Nat := if s.t = 0 then 2 * L else if s.t = 1 then 2 * s.m - 1 else if s.t = 3 then N - s.m else 0
def wtP (N : Nat) (ph : St) : Nat := if ph.t = 0 then N else 0
/-- what steps are to come, at most -/
def pot (N L : Nat) (l : List St) (ph : St) : Nat := (l.map (wt N L)).sum + wtP N ph
def nds (l : List St) : Nat := (l.filter fun s => !decide s.dn).length
structure McIn (M N L : Nat) (l : List St) (ph : St) : Prop where
 len : l.length = M
 LM : L ≤ M
 cnt : nds l = L
 kinds : ∀ s ∈ l, s.t ≤ 4
 ph : (ph.t = 0 ∧ 1 ≤ L ∧ ∀ s ∈ l, s.t ≤ 2 ∧ (s.t = 1 → L ≤ s.m ∧ s.m ≤ M)) ∨ (ph.t = 3 ∧ L = 1 ∧ ph.m < N ∧ ∀ s ∈ l, s = ph ∨ s.t = 2) ∨ (ph.t = 4 ∧ L = 0 ∧ ∀ s ∈ l, s.t = 2 ∨ s.t = 4)
theorem sum_set {f : St → Nat} : ∀ {l : List St} {q : Nat} {s s' : St}, l[q]? = some s → ((l.set q s').map f).sum + f s = (l.map f).sum + f s'
 | [], q, s, s', h => by simp at h
 | a :: l, 0, s, s', h => by
  simp at h
  subst h
  simp
  omega
 | a :: l, q + 1, s, s', h => by
  have := sum_set (f := f) (l := l) (q := q) (s := s) (s' := s') (by simpa using h)
  simp at this ⊢
  omega
theorem nds_set : ∀ {l : List St} {q : Nat} {s s' : St}, l[q]? = some s → nds (l.set q s') + (if s.dn then 0 else 1) = nds l + (if s'.dn then 0 else 1)
 | [], q, s, s', h => by simp at h
 | a :: l, 0, s, s', h => by
  simp at h
  subst h
  unfold nds
  by_cases h1 : a.dn <;> by_cases h2 : s'.dn <;> simp [h1, h2] <;> omega
 | a :: l, q + 1, s, s', h => by
  have := nds_set (l := l) (q := q) (s := s) (s' := s') (by simpa using h)
  unfold nds at this ⊢
  by_cases h1 : a.dn <;> simp [h1] at this ⊢ <;> omega
theorem nds_cons (a : St) (l : List St) : nds (a :: l) = (if a.dn then 0 else 1) + nds l := by
 unfold nds
 by_cases h1 : a.dn <;> simp [h1]
 omega
theorem sum_rep (f : St → Nat) (x : St) : ∀ M : Nat, ((List.replicate M x).map f).sum = M * f x
 | 0 => by simp
 | M + 1 => by
  rw [List.replicate_succ, List.map_cons, List.sum_cons, sum_rep f x M, Nat.succ_mul]
  omega
theorem nds_pos {l : List St} {s : St} (h : s ∈ l) (hd : ¬ s.dn) : 1 ≤ nds l := by
 unfold nds
 exact List.length_pos_iff.2 (List.ne_nil_of_mem (List.mem_filter.2 ⟨h, by simpa using hd⟩))
/-- all others are done, when one is left -/
theorem nds_one : ∀ {l : List St} {q : Nat} {s : St}, nds l = 1 → l[q]? = some s → ¬ s.dn → ∀ (j : Nat) (z : St), j ≠ q → l[j]? = some z → z.dn
 | [], q, s, _, h, _ => by simp at h
 | a :: l, 0, s, h1, h, hd => fun j z hj hz => by
  simp at h
  subst h
  obtain ⟨i, rfl⟩ : ∃ i, j = i + 1 := ⟨j - 1, by omega⟩
  have hz' : l[i]? = some z := by simpa using hz
  by_cases hzd : z.dn
  ·exact hzd
  ·have h9 := nds_pos (List.mem_of_getElem? hz') hzd
   rw [nds_cons, if_neg hd] at h1
   omega
 | a :: l, q + 1, s, h1, h, hd => fun j z hj hz => by
  have h' : l[q]? = some s := by simpa using h
  have h9 := nds_pos (List.mem_of_getElem? h') hd
  have ha : a.dn := by
   by_cases ha : a.dn
   ·exact ha
   ·rw [nds_cons, if_neg ha] at h1
    omega
  cases j with
  | zero => simp at hz; subst hz; exact ha
  | succ i =>
   refine nds_one (l := l) (q := q) (s := s) ?_ h' hd i z (by omega) (by simpa using hz)
   rw [nds_cons, if_pos ha] at h1
   omega
theorem sum_le {f g : St → Nat} : ∀ {l : List St}, (∀ s ∈ l, f s ≤ g s) → (l.map f).sum ≤ (l.map g).sum
 | [], _ => Nat.le_refl _
 | a :: l, h => by
  have h1 := h a (List.mem_cons_self ..)
  have h2 := sum_le (l := l) (fun s hs => h s (List.mem_cons_of_mem _ hs))
  simp
  omega
theorem mem_set_q {l : List St} {q : Nat} {s s' z : St} (hq : l[q]? = some s) (hz : z ∈ l.set q s') : z = s' ∨ ∃ j, j ≠ q ∧ l[j]? = some z := by
 obtain ⟨j, hj⟩ := List.mem_iff_getElem?.1 hz
 rw [List.getElem?_set] at hj
 by_cases e : q = j
 ·rw [if_pos e, if_pos (List.getElem?_eq_some_iff.1 hq).1] at hj
  injection hj with hj
  exact .inl hj.symm
 ·rw [if_neg e] at hj
  exact .inr ⟨j, fun h => e h.symm, hj⟩
/-- a step of one who isn't done: what holds holds on, and less is to come -/
theorem mc_step {M N L : Nat} {l : List St} {ph : St} {q : Nat} {s : St} (I : McIn M N L l ph) (hN : 1 ≤ N) (hq : l[q]? = some s) (hd : ¬ s.dn) :
  McIn M N (stL N L s) (l.set q (stN N L s)) (stP N L s ph) ∧ pot N (stL N L s) (l.set q (stN N L s)) (stP N L s ph) < pot N L l ph := by
 have hm := List.mem_of_getElem? hq
 have hk := I.kinds s hm
 have hlen : (l.set q (stN N L s)).length = M := by rw [List.length_set]; exact I.len
 have hcnt := nds_set (s' := stN N L s) hq
 rw [if_neg hd, I.cnt] at hcnt
 have hp := nds_pos hm hd
 rw [I.cnt] at hp
 have hsum := fun f => sum_set (f := f) (s' := stN N L s) hq
 obtain ⟨t, m⟩ := s
 unfold St.dn at hd
 dsimp only at hd hk
 have ht : t = 0 ∨ t = 1 ∨ t = 3 := by omega
 rcases ht with rfl | rfl | rfl
 ·-- it looks
  have e1 : stN N L ⟨0, m⟩ = ⟨1, L⟩ := rfl
  have e2 : stL N L ⟨0, m⟩ = L := by simp [stL]
  have e3 : stP N L ⟨0, m⟩ ph = ph := by simp [stP]
  rw [e1] at hlen hcnt hsum ⊢
  rw [e2, e3]
  have hA : ph.t = 0 ∧ 1 ≤ L ∧ ∀ s ∈ l, s.t ≤ 2 ∧ (s.t = 1 → L ≤ s.m ∧ s.m ≤ M) := by
   rcases I.ph with h | ⟨_, _, _, h⟩ | ⟨_, h, _⟩
   ·exact h
   ·rcases h _ hm with h | h
    ·have h9 := I.ph
     rw [← h] at h9
     rcases h9 with ⟨_, a, b⟩ | ⟨h8, _⟩ | ⟨h8, _⟩
     ·exact ⟨by rw [← h], a, b⟩
     ·cases h8
     ·cases h8
    ·cases h
   ·omega
  refine ⟨⟨hlen, I.LM, ?_, fun z hz => ?_, .inl ⟨hA.1, hA.2.1, fun z hz => ?_⟩⟩, ?_⟩
  ·rw [if_neg (by unfold St.dn; simp)] at hcnt; omega
  ·rcases mem_set_q hq hz with rfl | ⟨j, _, hj⟩
   ·simp
   ·exact I.kinds z (List.mem_of_getElem? hj)
  ·rcases mem_set_q hq hz with rfl | ⟨j, _, hj⟩
   ·exact ⟨by show 1 ≤ 2; omega, fun _ => ⟨Nat.le_refl _, I.LM⟩⟩
   ·exact hA.2.2 z (List.mem_of_getElem? hj)
  ·have h := hsum (wt N L)
   have w1 : wt N L ⟨0, m⟩ = 2 * L := rfl
   have w2 : wt N L ⟨1, L⟩ = 2 * L - 1 := rfl
   unfold pot
   omega
 ·-- it leaves, or was overtaken
  have hA : ph.t = 0 ∧ 1 ≤ L ∧ ∀ s ∈ l, s.t ≤ 2 ∧ (s.t = 1 → L ≤ s.m ∧ s.m ≤ M) := by
   rcases I.ph with h | ⟨h0, _, _, h⟩ | ⟨_, h, _⟩
   ·exact h
   ·rcases h _ hm with h | h
    ·rw [← h] at h0; cases h0
    ·cases h
   ·omega
  have hmb := (hA.2.2 _ hm).2 rfl
  dsimp only at hmb
  by_cases hmL : m = L
  ·subst hmL
   by_cases hm1 : m = 1
   ·subst hm1
    have e1 : stN N 1 ⟨1, 1⟩ = ⟨3, 0⟩ := rfl
    have e2 : stL N 1 ⟨1, 1⟩ = 1 := by simp [stL]
    have e3 : stP N 1 ⟨1, 1⟩ ph = ⟨3, 0⟩ := by simp [stP, stN]
    rw [e1] at hlen hcnt hsum ⊢
    rw [e2, e3]
    have hoth := nds_one I.cnt hq (by unfold St.dn; simp)
    refine ⟨⟨hlen, I.LM, ?_, fun z hz => ?_, .inr (.inl ⟨rfl, rfl, hN, fun z hz => ?_⟩)⟩, ?_⟩
    ·rw [if_neg (by unfold St.dn; simp)] at hcnt; omega
    ·rcases mem_set_q hq hz with rfl | ⟨j, _, hj⟩
     ·simp
     ·exact I.kinds z (List.mem_of_getElem? hj)
    ·rcases mem_set_q hq hz with rfl | ⟨j, hjq, hj⟩
     ·exact .inl rfl
     ·have h1 := hoth j z hjq hj
      have h2 := (hA.2.2 z (List.mem_of_getElem? hj)).1
      unfold St.dn at h1
      exact .inr (by omega)
    ·have h := hsum (wt N 1)
     have w1 : wt N 1 ⟨1, 1⟩ = 1 := rfl
     have w2 : wt N 1 ⟨3, 0⟩ = N := by simp [wt]
     have w3 : wtP N ph = N := by unfold wtP; rw [if_pos hA.1]
     have w4 : wtP N ⟨3, 0⟩ = 0 := rfl
     unfold pot
     omega
   ·have e1 : stN N m ⟨1, m⟩ = ⟨2, 0⟩ := by simp [stN, hm1]
    have e2 : stL N m ⟨1, m⟩ = m - 1 := by simp [stL, hm1]
    have e3 : stP N m ⟨1, m⟩ ph = ph := by simp [stP, hm1]
    rw [e1] at hlen hcnt hsum ⊢
    rw [e2, e3]
    have hLM := I.LM
    refine ⟨⟨hlen, by omega, ?_, fun z hz => ?_, .inl ⟨hA.1, by omega, fun z hz => ?_⟩⟩, ?_⟩
    ·rw [if_pos (by unfold St.dn; simp)] at hcnt; omega
    ·rcases mem_set_q hq hz with rfl | ⟨j, _, hj⟩
     ·simp
     ·exact I.kinds z (List.mem_of_getElem? hj)
    ·rcases mem_set_q hq hz with rfl | ⟨j, _, hj⟩
     ·exact ⟨Nat.le_refl _, fun h => by cases h⟩
     ·obtain ⟨a, b⟩ := hA.2.2 z (List.mem_of_getElem? hj)
      exact ⟨a, fun h => by have := b h; omega⟩
    ·have h := hsum (wt N (m - 1))
     have w1 : wt N (m - 1) ⟨1, m⟩ = 2 * m - 1 := rfl
     have w2 : wt N (m - 1) ⟨2, 0⟩ = 0 := rfl
     have h2 : (l.map (wt N (m - 1))).sum ≤ (l.map (wt N m)).sum := sum_le (fun z _ => by unfold wt; split <;> omega)
     unfold pot
     omega
  ·have e1 : stN N L ⟨1, m⟩ = ⟨0, 0⟩ := by simp [stN, hmL]
   have e2 : stL N L ⟨1, m⟩ = L := by simp [stL, hmL]
   have e3 : stP N L ⟨1, m⟩ ph = ph := by simp [stP, hmL]
   rw [e1] at hlen hcnt hsum ⊢
   rw [e2, e3]
   refine ⟨⟨hlen, I.LM, ?_, fun z hz => ?_, .inl ⟨hA.1, hA.2.1, fun z hz => ?_⟩⟩, ?_⟩
   ·rw [if_neg (by unfold St.dn; simp)] at hcnt; omega
   ·rcases mem_set_q hq hz with rfl | ⟨j, _, hj⟩
    ·simp
    ·exact I.kinds z (List.mem_of_getElem? hj)
   ·rcases mem_set_q hq hz with rfl | ⟨j, _, hj⟩
    ·exact ⟨by show 0 ≤ 2; omega, fun h => by cases h⟩
    ·exact hA.2.2 z (List.mem_of_getElem? hj)
   ·have h := hsum (wt N L)
    have w1 : wt N L ⟨1, m⟩ = 2 * m - 1 := rfl
    have w2 : wt N L ⟨0, 0⟩ = 2 * L := rfl
    unfold pot
    omega
 ·-- the last one
  have hB : ph = ⟨3, m⟩ ∧ L = 1 ∧ m < N ∧ ∀ s ∈ l, s = ph ∨ s.t = 2 := by
   rcases I.ph with ⟨_, _, h⟩ | ⟨_, h1, h2, h⟩ | ⟨_, h, _⟩
   ·have := (h _ hm).1
    dsimp only at this
    omega
   ·rcases h _ hm with h9 | h9
    ·exact ⟨h9.symm, h1, by rw [← h9] at h2; exact h2, h⟩
    ·cases h9
   ·omega
  obtain ⟨rfl, rfl, hmN, hall⟩ := hB
  have hoth := nds_one I.cnt hq (by unfold St.dn; simp)
  by_cases hl : m + 1 < N
  ·have e1 : stN N 1 ⟨3, m⟩ = ⟨3, m + 1⟩ := by simp [stN, hl]
   have e2 : stL N 1 ⟨3, m⟩ = 1 := by simp [stL, hl]
   have e3 : stP N 1 ⟨3, m⟩ ⟨3, m⟩ = ⟨3, m + 1⟩ := by simp [stP, stN, hl]
   rw [e1] at hlen hcnt hsum ⊢
   rw [e2, e3]
   refine ⟨⟨hlen, I.LM, ?_, fun z hz => ?_, .inr (.inl ⟨rfl, rfl, hl, fun z hz => ?_⟩)⟩, ?_⟩
   ·rw [if_neg (by unfold St.dn; simp)] at hcnt; omega
   ·rcases mem_set_q hq hz with rfl | ⟨j, _, hj⟩
    ·simp
    ·exact I.kinds z (List.mem_of_getElem? hj)
   ·rcases mem_set_q hq hz with rfl | ⟨j, hjq, hj⟩
    ·exact .inl rfl
    ·have h1 := hoth j z hjq hj
     rcases hall z (List.mem_of_getElem? hj) with rfl | h2
     ·unfold St.dn at h1; simp at h1
     ·exact .inr h2
   ·have h := hsum (wt N 1)
    have w1 : wt N 1 ⟨3, m⟩ = N - m := rfl
    have w2 : wt N 1 ⟨3, m + 1⟩ = N - (m + 1) := rfl
    have w3 : wtP N ⟨3, m⟩ = 0 := rfl
    have w4 : wtP N ⟨3, m + 1⟩ = 0 := rfl
    unfold pot
    omega
  ·have e1 : stN N 1 ⟨3, m⟩ = ⟨4, 0⟩ := by simp [stN, hl]
   have e2 : stL N 1 ⟨3, m⟩ = 0 := by simp [stL, hl]
   have e3 : stP N 1 ⟨3, m⟩ ⟨3, m⟩ = ⟨4, 0⟩ := by simp [stP, stN, hl]
   rw [e1] at hlen hcnt hsum ⊢
   rw [e2, e3]
   refine ⟨⟨hlen, Nat.zero_le _, ?_, fun z hz => ?_, .inr (.inr ⟨rfl, rfl, fun z hz => ?_⟩)⟩, ?_⟩
   ·rw [if_pos (by unfold St.dn; simp)] at hcnt; omega
   ·rcases mem_set_q hq hz with rfl | ⟨j, _, hj⟩
    ·simp
    ·exact I.kinds z (List.mem_of_getElem? hj)
   ·rcases mem_set_q hq hz with rfl | ⟨j, hjq, hj⟩
    ·exact .inr rfl
    ·have h1 := hoth j z hjq hj
     unfold St.dn at h1
     exact h1
   ·have h := hsum (wt N 0)
    have w1 : wt N 0 ⟨3, m⟩ = N - m := rfl
    have w2 : wt N 0 ⟨4, 0⟩ = 0 := rfl
    have h2 : (l.map (wt N 0)).sum ≤ (l.map (wt N 1)).sum := sum_le (fun z _ => by unfold wt; split <;> omega)
    have w3 : wtP N ⟨3, m⟩ = 0 := rfl
    have w4 : wtP N ⟨4, 0⟩ = 0 := rfl
    unfold pot
    omega
theorem mc_start (M N : Nat) (h : 1 ≤ M) : McIn M N M (List.replicate M ⟨0, 0⟩) ⟨0, 0⟩ ∧ pot N M (List.replicate M ⟨0, 0⟩) ⟨0, 0⟩ = M * (2 * M) + N := by
 refine ⟨⟨by simp, Nat.le_refl _, ?_, fun s hs => ?_, .inl ⟨rfl, h, fun s hs => ?_⟩⟩, ?_⟩
 ·unfold nds
  rw [List.filter_replicate]
  simp [St.dn]
 ·obtain rfl := List.eq_of_mem_replicate hs; decide
 ·obtain rfl := List.eq_of_mem_replicate hs; exact ⟨by decide, fun h => by cases h⟩
 ·unfold pot
  rw [sum_rep]
  rfl
end Go.Proofs.YtbijaloeilnjoaaGreat

namespace Go.Proofs.YtbijaloeilnjoaaGreat
open Go.RowKit
set_option linter.unusedVariables false
set_option linter.unusedSimpArgs false

/-- i turns were taken: F0 steps were to come at the beginning, F are now; e in turn were passed over -/
def Tm (M F0 F i e : Nat) (l : List St) : Prop :=
 (i ≤ 64 ∧ e = 0 ∧ F ≤ F0) ∨ (64 ≤ i ∧ F ≤ F0 ∧ i ≤ 64 + 3 * (F0 - F) + e ∧ e ≤ i - 64 ∧ ∀ t, t < e → ∀ s, l[(i - 1 - t) % M]? = some s → s.dn)
theorem tm_skip {M F0 F i e q : Nat} {l : List St} {s : St} (h : Tm M F0 F i e l) (hq : 64 ≤ i → q = i % M) (hs : l[q]? = some s) (hd : s.dn) : ∃ e', Tm M F0 F (i + 1) e' l := by
 rcases h with ⟨h1, h2, h3⟩ | ⟨h1, h2, h3, h4, h5⟩
 ·by_cases h64 : i < 64
  ·exact ⟨0, .inl ⟨by omega, rfl, h3⟩⟩
  ·refine ⟨1, .inr ⟨by omega, h3, by omega, by omega, fun t ht z hz => ?_⟩⟩
   obtain rfl : t = 0 := by omega
   rw [show i + 1 - 1 - 0 = i by omega, ← hq (by omega), hs] at hz
   injection hz with hz
   exact hz ▸ hd
 ·refine ⟨e + 1, .inr ⟨by omega, h2, by omega, by omega, fun t ht z hz => ?_⟩⟩
  cases t with
  | zero =>
   rw [show i + 1 - 1 - 0 = i by omega, ← hq (by omega), hs] at hz
   injection hz with hz
   exact hz ▸ hd
  | succ t => exact h5 t (by omega) z (by rw [show i + 1 - 1 - (t + 1) = i - 1 - t by omega] at hz; exact hz)
/-- not all are passed over -/
theorem tm_e {M F0 F i e q : Nat} {l : List St} {s : St} (h : Tm M F0 F i e l) (hM : 1 ≤ M ∧ M ≤ 3) (hq : q < M) (hs : l[q]? = some s) (hd : ¬ s.dn) : e < M := by
 rcases h with ⟨h1, h2, h3⟩ | ⟨h1, h2, h3, h4, h5⟩
 ·omega
 ·by_cases he : e < M
  ·exact he
  ·exfalso
   have key : ∃ t, t < M ∧ (i - 1 - t) % M = q := by
    have h3 : M = 1 ∨ M = 2 ∨ M = 3 := by omega
    rcases h3 with rfl | rfl | rfl
    ·exact ⟨0, by omega, by omega⟩
    ·by_cases h0 : (i - 1) % 2 = q
     ·exact ⟨0, by omega, by omega⟩
     ·exact ⟨1, by omega, by omega⟩
    ·by_cases h0 : (i - 1) % 3 = q
     ·exact ⟨0, by omega, by omega⟩
     ·by_cases h9 : (i - 1 - 1) % 3 = q
      ·exact ⟨1, by omega, by omega⟩
      ·exact ⟨2, by omega, by omega⟩
   obtain ⟨t, ht, e9⟩ := key
   exact hd (h5 t (by omega) s (by rw [e9]; exact hs))
theorem tm_step {M F0 F F' i e q : Nat} {l l' : List St} {s : St} (h : Tm M F0 F i e l) (hM : 1 ≤ M ∧ M ≤ 3) (hq : q < M) (hs : l[q]? = some s) (hd : ¬ s.dn) (hF : F' < F) : Tm M F0 F' (i + 1) 0 l' := by
 have he := tm_e h hM hq hs hd
 rcases h with ⟨h1, h2, h3⟩ | ⟨h1, h2, h3, h4, h5⟩
 ·by_cases h64 : i < 64
  ·exact .inl ⟨by omega, rfl, by omega⟩
  ·exact .inr ⟨by omega, by omega, by omega, Nat.zero_le _, fun t ht => by omega⟩
 ·exact .inr ⟨by omega, by omega, by omega, Nat.zero_le _, fun t ht => by omega⟩
theorem nds_ex {l : List St} (h : 1 ≤ nds l) : ∃ (q : Nat) (s : St), l[q]? = some s ∧ ¬ s.dn := by
 unfold nds at h
 obtain ⟨s, hs⟩ := List.exists_mem_of_length_pos h
 obtain ⟨h1, h2⟩ := List.mem_filter.1 hs
 obtain ⟨q, hq⟩ := List.mem_iff_getElem?.1 h1
 exact ⟨q, s, hq, by simpa using h2⟩
/-- there is an end to it -/
theorem tm_end {M N F0 i e L : Nat} {l : List St} {ph : St} (h : Tm M F0 (pot N L l ph) i e l) (I : McIn M N L l ph) (hM : 1 ≤ M ∧ M ≤ 3) (hF : F0 ≤ 200) (hL : 1 ≤ L) : i < 900 := by
 obtain ⟨q, s, hq, hd⟩ := nds_ex (l := l) (by rw [I.cnt]; exact hL)
 have hqM : q < M := by rw [← I.len]; exact (List.getElem?_eq_some_iff.1 hq).1
 have he := tm_e h hM hqM hq hd
 rcases h with ⟨h1, _⟩ | ⟨_, _, h3, _⟩
 ·omega
 ·omega
end Go.Proofs.YtbijaloeilnjoaaGreat

namespace Go.Proofs.YtbijaloeilnjoaaGreat
open Go.RowKit
set_option linter.unusedVariables false
set_option linter.unusedSimpArgs false

abbrev drC : Ctl := ⟨3, 0, 0, 4⟩
/-- the control word behind one who leaves, of m within -/
def dnC (m : Nat) : Ctl := if m = 1 then drC else if m = 2 then c18 1 else c18 2
theorem dnC_leave {m : Nat} (h : 1 ≤ m ∧ m ≤ 3) : leave (c18 m) = (dnC m, 0) ∧ Right (dnC m) ∧ Right (c18 m) := by
 have h3 : m = 1 ∨ m = 2 ∨ m = 3 := by omega
 rcases h3 with rfl | rfl | rfl
 ·exact ⟨by kernel_rfl, by decide, by decide⟩
 ·exact ⟨by kernel_rfl, by decide, by decide⟩
 ·exact ⟨by kernel_rfl, by decide, by decide⟩
theorem dnC_is {m : Nat} (h : 2 ≤ m ∧ m ≤ 3) : dnC m = c18 ((m - 1 : Nat) : Int) ∧ (dnC m).st ≠ 3 := by
 have h3 : m = 2 ∨ m = 3 := by omega
 rcases h3 with rfl | rfl
 ·exact ⟨rfl, by decide⟩
 ·exact ⟨rfl, by decide⟩
theorem c18_ne {m n : Nat} (hm : 1 ≤ m ∧ m ≤ 3) (hn : 1 ≤ n ∧ n ≤ 3) (h : m ≠ n) : word (c18 n) ≠ word (c18 m) := by
 intro e
 have h1 := (right_word (dnC_leave hm).2.2).2.2
 have h2 := (right_word (dnC_leave hn).2.2).2.2
 rw [e, h1] at h2
 have h3 : (m : Int) = (n : Int) := congrArg Ctl.n h2
 omega
/-- a Run, by where it stands -/
structure RunIs (fs : List (List Fo)) (obs : List Ob) (w : World) (b : Nat) (T : List Nat) (s : St) (ch : Sl) (r : Rn) : Prop where
 k0 : s.t = 0 → r = call0 ch
 k1 : s.t = 1 → r = runA ch (c18 s.m) (dnC s.m)
 k2 : s.t = 2 → ∃ m : Nat, r = toldR (runA ch (c18 m) (dnC m)) 0 0 noS
 k3 : s.t = 3 → ∃ ls sd, LvAt w b T drC (runB ch (c18 1) drC) (laIter fs s.m (la0 obs)) ls sd r
 k4 : s.t = 4 → EndAt w b T (runB ch (c18 1) drC) (laEnd fs obs) r
section
variable {fs : List (List Fo)} {obs : List Ob} {w w' : World} {b : Nat} {T : List Nat} {s : St} {ch : Sl} {r : Rn}
theorem RunIs.kept (h : RunIs fs obs w b T s ch r) (k : Keep [b] w w') : RunIs fs obs w' b T s ch r :=
 ⟨h.k0, h.k1, h.k2, fun e => let ⟨ls, sd, x⟩ := h.k3 e; ⟨ls, sd, x.kept k⟩, fun e => let ⟨ls, sd, sa, a1, a2, a3, a4⟩ := (h.k4 e).is; ⟨ls, sd, sa, a1, a2, a3.kept k, a4.kept k⟩⟩
theorem RunIs.below (h : RunIs fs obs w b T s ch r) (k : Below w.heap.size w w') : RunIs fs obs w' b T s ch r :=
 ⟨h.k0, h.k1, h.k2, fun e => let ⟨ls, sd, x⟩ := h.k3 e; ⟨ls, sd, x.below k⟩, fun e => (h.k4 e).below k⟩
theorem RunIs.kept9 {g : Nat} (h : RunIs fs obs w b T s ch r) (k : Keep [g] w w') (hg : g ∈ T) : RunIs fs obs w' b T s ch r :=
 ⟨h.k0, h.k1, h.k2, fun e => let ⟨ls, sd, x⟩ := h.k3 e; ⟨ls, sd, ⟨x.r, x.ar, x.dn, x.nx, x.ls.kept9 k hg, x.sd.kept9 k hg⟩⟩, fun e => let ⟨ls, sd, sa, a1, a2, a3, a4⟩ := (h.k4 e).is; ⟨ls, sd, sa, a1, a2, a3.kept9 k hg, a4.kept9 k hg⟩⟩
theorem SlAt.more {g : Nat} {x : Sl} {k : List Int} (h : SlAt w b T x k) (hg : w.heap.size ≤ g) : SlAt w b (g :: T) x k :=
 ⟨h.n, h.c, h.e, h.b, fun h0 z hz hm => by
  rcases List.mem_cons.1 hm with e | hm
  ·obtain ⟨bq, oq, eq, hbq, _⟩ := Cells.at_ h.e (by rw [n_len]; omega)
   rw [eq] at hz
   injection hz with hz
   subst hz
   simp at e
   omega
  ·exact h.t h0 z hz hm⟩
theorem SlAt'.more {g : Nat} {x : Sl} {k : List Int} (h : SlAt' w b T x k) (hg : w.heap.size ≤ g) : SlAt' w b (g :: T) x k :=
 ⟨h.n, h.e, h.b, fun h0 z hz hm => by
  rcases List.mem_cons.1 hm with e | hm
  ·obtain ⟨bq, oq, eq, hbq, _⟩ := Cells.at_ h.e (by rw [n_len]; omega)
   rw [eq] at hz
   injection hz with hz
   subst hz
   simp at e
   omega
  ·exact h.t h0 z hz hm⟩
theorem SlAt.less {g : Nat} {x : Sl} {k : List Int} (h : SlAt w b (g :: T) x k) : SlAt w b T x k := ⟨h.n, h.c, h.e, h.b, fun h0 z hz hm => h.t h0 z hz (List.mem_cons_of_mem _ hm)⟩
theorem SlAt'.less {g : Nat} {x : Sl} {k : List Int} (h : SlAt' w b (g :: T) x k) : SlAt' w b T x k := ⟨h.n, h.e, h.b, fun h0 z hz hm => h.t h0 z hz (List.mem_cons_of_mem _ hm)⟩
theorem RunIs.more {g : Nat} (h : RunIs fs obs w b T s ch r) (hg : w.heap.size ≤ g) : RunIs fs obs w b (g :: T) s ch r :=
 ⟨h.k0, h.k1, h.k2, fun e => let ⟨ls, sd, x⟩ := h.k3 e; ⟨ls, sd, ⟨x.r, x.ar, x.dn, x.nx, x.ls.more hg, x.sd.more hg⟩⟩, fun e => let ⟨ls, sd, sa, a1, a2, a3, a4⟩ := (h.k4 e).is; ⟨ls, sd, sa, a1, a2, a3.more hg, a4.more hg⟩⟩
theorem RunIs.less {g : Nat} (h : RunIs fs obs w b (g :: T) s ch r) : RunIs fs obs w b T s ch r :=
 ⟨h.k0, h.k1, h.k2, fun e => let ⟨ls, sd, x⟩ := h.k3 e; ⟨ls, sd, ⟨x.r, x.ar, x.dn, x.nx, x.ls.less, x.sd.less⟩⟩, fun e => let ⟨ls, sd, sa, a1, a2, a3, a4⟩ := (h.k4 e).is; ⟨ls, sd, sa, a1, a2, a3.less, a4.less⟩⟩
/-- done, or not -/
theorem RunIs.done (h : RunIs fs obs w b T s ch r) (hk : s.t ≤ 4) : r.done = decide s.dn := by
 obtain ⟨t, m⟩ := s
 dsimp only at hk
 have ht : t = 0 ∨ t = 1 ∨ t = 2 ∨ t = 3 ∨ t = 4 := by omega
 rcases ht with rfl | rfl | rfl | rfl | rfl
 ·rw [h.k0 rfl, decide_eq_false (by unfold St.dn; simp)]; rfl
 ·rw [h.k1 rfl, decide_eq_false (by unfold St.dn; simp)]; rfl
 ·obtain ⟨m', e⟩ := h.k2 rfl
  rw [e, decide_eq_true (by unfold St.dn; simp)]; rfl
 ·obtain ⟨ls, sd, e⟩ := h.k3 rfl
  rw [e.r, decide_eq_false (by unfold St.dn; simp)]; exact e.dn
 ·obtain ⟨⟨ls, sd, sa, e, _⟩⟩ := h.k4 rfl
  rw [e, decide_eq_true (by unfold St.dn; simp)]; rfl
end
/-- the words, by the phase -/
def wsMc (fs : List (List Fo)) (obs : List Ob) (L : Nat) (ph : St) : List Int :=
 if ph.t = 0 then wsL (c18 L) (8 * (used obs : Int)) 99 (extE obs) else if ph.t = 3 then wsOf drC (laIter fs ph.m (la0 obs)) else wsOf drC (laEnd fs obs)
theorem wsMc_0 {fs : List (List Fo)} {obs : List Ob} {L : Nat} {ph : St} (h : ph.t = 0) : wsMc fs obs L ph = wsL (c18 L) (8 * (used obs : Int)) 99 (extE obs) := by unfold wsMc; rw [if_pos h]
/-- the phase of one who isn't done -/
theorem McIn.of {M N L : Nat} {l : List St} {ph : St} {q : Nat} {s : St} (I : McIn M N L l ph) (hq : l[q]? = some s) (hd : ¬ s.dn) :
  (ph.t = 0 ∧ 1 ≤ L ∧ (s.t = 0 ∨ s.t = 1 ∧ L ≤ s.m ∧ s.m ≤ M)) ∨ (ph = s ∧ s.t = 3 ∧ L = 1 ∧ s.m < N) := by
 have hm := List.mem_of_getElem? hq
 unfold St.dn at hd
 rcases I.ph with ⟨h1, h2, h3⟩ | ⟨h1, h2, h3, h4⟩ | ⟨h1, h2, h3⟩
 ·have h9 := h3 s hm
  refine .inl ⟨h1, h2, ?_⟩
  by_cases h0 : s.t = 0
  ·exact .inl h0
  ·have : s.t = 1 := by omega
   exact .inr ⟨this, h9.2 this⟩
 ·rcases h4 s hm with h | h
  ·subst h
   exact .inr ⟨rfl, h1, h2, h3⟩
  ·omega
 ·have := h3 s hm; omega
set_option maxHeartbeats 2000000 in
/-- a step of one who isn't done -/
theorem mcStep_any {M N L : Nat} {l : List St} {ph : St} {q : Nat} {s : St} {T : List Nat} {fl : List FSl} {obs : List Ob} {ch : Sl} {w : World} {p b : Nat} {r : Rn} {fA : Option Addr} {fc : Nat}
  (I : AlIn (fsL fl) obs (c18 1) drC) (H : McIn M N L l ph) (hM : M ≤ 3) (hN : laN (fsL fl) obs = N) (hq : l[q]? = some s) (hd : ¬ s.dn) (hR : RunIs (fsL fl) obs w b T s ch r) (hA : Arn w p b (wsMc (fsL fl) obs L ph)) (hF : FinsAt w fA fl) (hTl : ∀ j ∈ T, j < w.heap.size) :
  Calls Tryz.prog 15 #[.agg #[.int .i64 2, .int .i64 4, .int .i64 0, .int .i64 512], .slice fA fl.length fc, .pointer (some ⟨p, 0, none⟩), r.v] w fun e w' => Keep [b] w w' ∧ ∃ R, e = .returned (.tuple #[R.v, .int .i64 0]) ∧ RunIs (fsL fl) obs w' b T (stN N L s) ch R ∧ Arn w' p b (wsMc (fsL fl) obs (stL N L s) (stP N L s ph)) := by
 have hb3 := (laN_bd I.f8 obs).1
 have hLM := H.LM
 obtain ⟨t, m⟩ := s
 rcases H.of hq hd with ⟨hp, hL, hs⟩ | ⟨rfl, h3, hL1, hmN⟩
 ·rw [wsMc_0 hp] at hA
  rcases hs with h0 | ⟨h1, hLm, hmM⟩
  ·obtain rfl : t = 0 := h0
   obtain ⟨d1, d2, d3⟩ := dnC_leave (m := L) ⟨hL, by omega⟩
   rw [hR.k0 rfl]
   refine (ndSee_any d3 d2 d1 hA).mono ?_
   rintro e w2 ⟨rfl, hA2, hk⟩
   have e1 : stN N L ⟨0, m⟩ = ⟨1, L⟩ := rfl
   rw [e1]
   refine ⟨hk, _, rfl, ⟨fun h => (by cases h), fun _ => rfl, fun h => (by cases h), fun h => (by cases h), fun h => (by cases h)⟩, ?_⟩
   have e2 : stL N L ⟨0, m⟩ = L := by simp [stL]
   have e3 : stP N L ⟨0, m⟩ ph = ph := by simp [stP]
   rw [e2, e3, wsMc_0 hp]
   exact hA2
  ·obtain rfl : t = 1 := h1
   dsimp only at hLm hmM
   rw [hR.k1 rfl]
   obtain ⟨d1, d2, d3⟩ := dnC_leave (m := m) ⟨by omega, by omega⟩
   dsimp only
   by_cases hmL : m = L
   ·subst hmL
    by_cases hm1 : m = 1
    ·subst hm1
     have e1 : stN N 1 ⟨1, 1⟩ = ⟨3, 0⟩ := rfl
     have e2 : stL N 1 ⟨1, 1⟩ = 1 := by simp [stL]
     have e3 : stP N 1 ⟨1, 1⟩ ph = ⟨3, 0⟩ := by simp [stP, stN]
     rw [e1, e2, e3]
     refine (lvStepS_any p b 2 4 0 512 fA fl.length fc (runA ch (c18 1) drC) w 87 1 16 _ _ (runB ch (c18 1) drC) rfl rfl rfl go_leave hA (fun g w1 hb1 hg1 hT1 hA1 hgb hgp => lvLeaveDrain_any g p 2 4 0 512 fA fl.length fc b _ 8 (word (c18 1)) drC (runA ch (c18 1) drC) w1 plan18 hT1 hA1 hgb hgp I.dr.r rfl (word_bd d3) wsL_c (by show ((8 : Nat) : Int) = 8 * 1; decide) (by show (0 : Int) ≤ 1 ∧ (1 : Int) ≤ 2 - 1; decide) rfl rfl)).mono ?_
     rintro e w2 ⟨rfl, hA2, hk⟩
     refine ⟨hk, _, rfl, ⟨fun h => (by cases h), fun h => (by cases h), fun h => (by cases h), fun _ => ⟨noS, noS, ⟨rfl, rfl, rfl, rfl, SlAt.no _ _ _, SlAt.no _ _ _⟩⟩, fun h => (by cases h)⟩, ?_⟩
     show Arn w2 p b (wsOf drC (la0 obs))
     rw [wsOf_la0]
     exact hA2
    ·have e1 : stN N m ⟨1, m⟩ = ⟨2, 0⟩ := by simp [stN, hm1]
     have e2 : stL N m ⟨1, m⟩ = m - 1 := by simp [stL, hm1]
     have e3 : stP N m ⟨1, m⟩ ph = ph := by simp [stP, hm1]
     rw [e1, e2, e3]
     obtain ⟨g1, g2⟩ := dnC_is (m := m) ⟨by omega, by omega⟩
     refine (ndOk_any d3 d2 g2 hA).mono ?_
     rintro e w2 ⟨rfl, hA2, hk⟩
     refine ⟨hk, _, rfl, ⟨fun h => (by cases h), fun h => (by cases h), fun _ => ⟨m, rfl⟩, fun h => (by cases h), fun h => (by cases h)⟩, ?_⟩
     rw [wsMc_0 hp]
     rw [g1] at hA2
     exact hA2
   ·have e1 : stN N L ⟨1, m⟩ = ⟨0, 0⟩ := by simp [stN, hmL]
    have e2 : stL N L ⟨1, m⟩ = L := by simp [stL, hmL]
    have e3 : stP N L ⟨1, m⟩ ph = ph := by simp [stP, hmL]
    rw [e1, e2, e3]
    refine (lvStepS_any p b 2 4 0 512 fA fl.length fc (runA ch (c18 m) (dnC m)) w 87 1 16 _ _ (call0 ch) rfl rfl rfl go_leave hA (fun g w1 hb1 hg1 hT1 hA1 hgb hgp => lvLeaveNo_any g p 2 4 0 512 fA fl.length fc b _ 8 (word (c18 L)) (dnC m) (runA ch (c18 m) (dnC m)) w1 plan18 hT1 hA1 hgb hgp d2 rfl (word_bd d3) wsL_c (by show ((8 : Nat) : Int) = 8 * 1; decide) (by show (0 : Int) ≤ 1 ∧ (1 : Int) ≤ 2 - 1; decide) (c18_ne ⟨by omega, by omega⟩ ⟨hL, by omega⟩ hmL))).mono ?_
    rintro e w2 ⟨rfl, hA2, hk⟩
    refine ⟨hk, _, rfl, ⟨fun _ => rfl, fun h => (by cases h), fun h => (by cases h), fun h => (by cases h), fun h => (by cases h)⟩, ?_⟩
    rw [wsMc_0 hp]
    exact hA2
 ·obtain rfl : t = 3 := h3
  subst hL1
  dsimp only at hmN
  obtain ⟨ls, sd, hl⟩ := hR.k3 rfl
  have hA9 : Arn w p b (wsOf drC (laIter (fsL fl) m (la0 obs))) := hA
  have hk9 : m < laN (fsL fl) obs := by omega
  have hI := I.inn hk9
  dsimp only at hl
  by_cases hl1 : m + 1 < N
  ·have e1 : stN N 1 ⟨3, m⟩ = ⟨3, m + 1⟩ := by simp [stN, hl1]
   have e2 : stL N 1 ⟨3, m⟩ = 1 := by simp [stL, hl1]
   have e3 : stP N 1 ⟨3, m⟩ ⟨3, m⟩ = ⟨3, m + 1⟩ := by simp [stP, stN, hl1]
   rw [e1, e2, e3]
   have hdn : (laStep (fsL fl) (laIter (fsL fl) m (la0 obs))).done = false := by
    have := I.runs.on (m + 1) (by omega)
    rwa [laIter_succ] at this
   refine (laGo_any I.dr hI hA9 hl hF hTl hdn).mono ?_
   rintro e w2 ⟨hA2, hk2, R, ls', sd', rfl, hl2⟩
   refine ⟨hk2, R, rfl, ⟨fun h => (by cases h), fun h => (by cases h), fun h => (by cases h), fun _ => ⟨ls', sd', ?_⟩, fun h => (by cases h)⟩, ?_⟩
   ·show LvAt w2 b T drC _ (laIter (fsL fl) (m + 1) (la0 obs)) ls' sd' R
    rw [laIter_succ]; exact hl2
   ·show Arn w2 p b (wsOf drC (laIter (fsL fl) (m + 1) (la0 obs)))
    rw [laIter_succ]; exact hA2
  ·have e1 : stN N 1 ⟨3, m⟩ = ⟨4, 0⟩ := by simp [stN, hl1]
   have e2 : stL N 1 ⟨3, m⟩ = 0 := by simp [stL, hl1]
   have e3 : stP N 1 ⟨3, m⟩ ⟨3, m⟩ = ⟨4, 0⟩ := by simp [stP, stN, hl1]
   rw [e1, e2, e3]
   have he : laStep (fsL fl) (laIter (fsL fl) m (la0 obs)) = laEnd (fsL fl) obs := by
    rw [← laIter_succ, show m + 1 = laN (fsL fl) obs by omega]
    exact I.runs.it
   have hdn : (laStep (fsL fl) (laIter (fsL fl) m (la0 obs))).done = true := by rw [he]; rfl
   refine (laEnd_any I.dr hI hA9 hl hF hTl (la_end_pc hI hdn)).mono ?_
   rintro e w2 ⟨hA2, hk2, R, rfl, hE⟩
   rw [he] at hA2 hE
   exact ⟨hk2, R, rfl, ⟨fun h => (by cases h), fun h => (by cases h), fun h => (by cases h), fun h => (by cases h), fun _ => hE⟩, hA2⟩
/-- Runs in a row -/
structure RnRow (w : World) (g : Nat) (rs : List Rn) : Prop where
 row : ∃ C : Array Value, w.heap[g]? = some (.cells C 43 (0, 0)) ∧ rs.length * 26 ≤ C.size ∧ ∀ (k : Nat) (r : Rn), rs[k]? = some r → ∀ (j : Nat) (v : Value), r.arr[j]? = some v → C[k * 26 + j]? = some v
theorem RnRow.below {w w' : World} {g : Nat} {rs : List Rn} (h : RnRow w g rs) (hb : Below w.heap.size w w') : RnRow w' g rs := by
 obtain ⟨C, h1, h2⟩ := h.row
 exact ⟨⟨C, row_below h1 hb, h2⟩⟩
theorem RnRow.kept {w w' : World} {g : Nat} {rs : List Rn} {S : List Nat} (h : RnRow w g rs) (k : Keep S w w') (hg : g ∉ S) : RnRow w' g rs := by
 obtain ⟨C, h1, h2⟩ := h.row
 exact ⟨⟨C, k.row h1 hg, h2⟩⟩
theorem RnRow.cell {w : World} {g : Nat} {rs : List Rn} (h : RnRow w g rs) {k : Nat} {r : Rn} (hk : rs[k]? = some r) {j : Nat} {v : Value} (hj : r.arr[j]? = some v) : w.cell? ⟨g, k * 26 + j, none⟩ = some v := by
 obtain ⟨C, h1, _, h3⟩ := h.row
 rw [row_cell h1]
 exact h3 k r hk j v hj
theorem RnRow.lt {w : World} {g : Nat} {rs : List Rn} (h : RnRow w g rs) : g < w.heap.size := by
 obtain ⟨C, h1, _⟩ := h.row
 exact lt_of_heap h1
end Go.Proofs.YtbijaloeilnjoaaGreat
namespace Go.Proofs.YtbijaloeilnjoaaGreat
open Go.RowKit Go.ChangeShapes Go.WideShapes Go.Deep
set_option maxRecDepth 100000 in
theorem open_case18 {H : Type} {enc : TypeId × Value → H} {w : World} {base : Nat} {spare : Nat → Bool} {held : Bool} {r : Reach} {b0 : Nat} {v : Value} {d : DataW H} {p : List MemPlace}
  (hv : Value.okWide Tryz.prog w r b0 26 v) (h : DataW.Trod enc Tryz.prog w base spare held 26 v d p) :
  ∃ (l : List Int) (n : Int), v = .agg (l.map (Value.int .u8) ++ [Value.int .u8 n]).toArray ∧ (l.length = 64 ∧ ∀ x ∈ l, 0 ≤ x ∧ x ≤ 255) ∧ (0 ≤ n ∧ n ≤ 255) := by
 obtain ⟨cs, rfl, _⟩ := okWide_struct Tryz.underlying26 hv
 obtain ⟨fuel, hf⟩ := h
 obtain ⟨y0, y1, m, _, hl, h0, h1⟩ := Go.ChangeShapes.trod_struct2 Tryz.underlying26 hf
 have k0 : Tryz.prog.cellsOf 24 = 64 := by kernel_rfl
 have k1 : Tryz.prog.cellsOf 5 = 1 := by kernel_rfl
 obtain ⟨cl⟩ := cs
 have hl65 : cl.length = 65 := by
  have : (Value.agg ⟨cl⟩).cells.toList.length = 65 := hl.trans (by kernel_rfl)
  simpa [Value.cells] using this
 rw [k0] at h0
 rw [k1] at h1
 simp only [Value.cells] at h0 h1
 obtain ⟨n, e1, _, hw⟩ := DataW.trod_int Tryz.underlying5 h1
 obtain ⟨xs, m2, _, _, _, hxl, hi⟩ := DataW.trod_array Tryz.underlying24 h0
 obtain ⟨l, hll, hp⟩ := list_of (P := fun i (z : Int) => cl[i]? = some (Value.int .u8 z) ∧ (0 ≤ z ∧ z ≤ 255)) 64 (fun i him => by
  have h2 := hi i him
  rw [k1, List.getElem?_eq_getElem (l := xs) (by rw [hxl]; exact him)] at h2
  obtain ⟨z, hz, _, hw⟩ := DataW.trod_int Tryz.underlying5 h2
  refine ⟨z, ?_, wf_u8 hw⟩
  have h3 := congrArg (fun q : List Value => q[0]?) hz
  simp only [List.getElem?_take, List.getElem?_drop] at h3
  simpa [him] using h3)
 refine ⟨l, n, ?_, ⟨hll, fun x hx => ?_⟩, wf_u8 hw⟩
 ·congr 1
  congr 1
  apply List.ext_getElem?
  intro i
  by_cases h64 : i < 64
  ·obtain ⟨z, hz⟩ : ∃ z, l[i]? = some z := ⟨_, List.getElem?_eq_getElem (by omega)⟩
   rw [(hp i z hz).1, List.getElem?_append_left (by simp; omega), List.getElem?_map, hz]
   rfl
  ·by_cases h65 : i = 64
   ·subst h65
    have h3 := congrArg (fun q : List Value => q[0]?) e1
    simp only [List.getElem?_take, List.getElem?_drop] at h3
    rw [List.getElem?_append_right (by simp; omega)]
    simp [hll] at h3 ⊢
    exact h3
   ·rw [List.getElem?_eq_none (by omega), List.getElem?_eq_none (by simp; omega)]
 ·obtain ⟨i, hi2⟩ := List.mem_iff_getElem?.1 hx
  exact (hp i x hi2).2
end Go.Proofs.YtbijaloeilnjoaaGreat

namespace Go.Proofs.YtbijaloeilnjoaaGreat
open Go.RowKit
set_option linter.unusedVariables false
set_option linter.unusedSimpArgs false

theorem infoRun26 : (Tryz.prog.info? 43).map (fun i => (i.zero, i.size, i.bytes)) = some (some (.agg ZRun), 26, 232) := by kernel_rfl
/-- the control word, by the phase -/
def ctMc (fs : List (List Fo)) (obs : List Ob) (L : Nat) (ph : St) : Ctl := if ph.t = 0 then c18 L else if ph.t = 3 then drC else ctlOf drC (laEnd fs obs)
theorem ctMc_at {fs : List (List Fo)} {obs : List Ob} {M N L : Nat} {l : List St} {ph : St} (I : AlIn fs obs (c18 1) drC) (H : McIn M N L l ph) (hM : M ≤ 3) (hN : laN fs obs = N) : (wsMc fs obs L ph)[8]? = some (word (ctMc fs obs L ph)) ∧ Right (ctMc fs obs L ph) := by
 have hLM := H.LM
 unfold wsMc ctMc
 rcases H.ph with ⟨h1, h2, _⟩ | ⟨h1, h2, h3, _⟩ | ⟨h1, _⟩
 ·rw [if_pos h1, if_pos h1]
  exact ⟨wsL_c, (dnC_leave ⟨h2, by omega⟩).2.2⟩
 ·rw [if_neg (by omega), if_pos h1, if_neg (by omega), if_pos h1]
  refine ⟨?_, I.dr.r⟩
  have hd := (I.inn (k := ph.m) (by omega)).done
  unfold wsOf ctlOf
  rw [if_neg (by rw [hd]; simp)]
  exact wsL_c
 ·rw [if_neg (by omega), if_neg (by omega), if_neg (by omega), if_neg (by omega)]
  refine ⟨wsL_c, ?_⟩
  unfold ctlOf
  rw [if_pos (show (laEnd fs obs).done = true from rfl)]
  split
  ·exact I.dr.hold.1
  ·exact I.dr.opn.1
/-- how many steps one has taken -/
def StOk (M L : Nat) (s : St) (n : Nat) : Prop := (s.t = 0 → ∃ f, n = 2 * f ∧ f + L ≤ M) ∧ (s.t = 1 → ∃ f, n = 2 * f + 1 ∧ f + s.m ≤ M)
theorem stOk_next {M N L n : Nat} {s : St} (h : StOk M L s n) (hs : s.t = 1 → L ≤ s.m) : StOk M (stL N L s) (stN N L s) (n + 1) := by
 obtain ⟨t, m⟩ := s
 unfold StOk at h ⊢
 dsimp only at h hs
 by_cases h0 : t = 0
 ·subst h0
  obtain ⟨f, h1, h2⟩ := h.1 rfl
  exact ⟨fun e => by simp [stN] at e, fun _ => ⟨f, by omega, by simpa [stN] using h2⟩⟩
 by_cases h1 : t = 1
 ·subst h1
  obtain ⟨f, h1, h2⟩ := h.2 rfl
  have hL := hs rfl
  by_cases hm : m = L
  ·subst hm
   by_cases hm1 : m = 1
   ·subst hm1
    exact ⟨fun e => by simp [stN] at e, fun e => by simp [stN] at e⟩
   ·exact ⟨fun e => by simp [stN, hm1] at e, fun e => by simp [stN, hm1] at e⟩
  ·refine ⟨fun _ => ⟨f + 1, by omega, ?_⟩, fun e => by simp [stN, hm] at e⟩
   have e2 : stL N L ⟨1, m⟩ = L := by simp [stL, hm]
   rw [e2]
   omega
 ·refine ⟨fun e => ?_, fun e => ?_⟩
  ·unfold stN at e
   rw [if_neg h0, if_neg h1] at e
   split at e
   ·split at e <;> cases e
   ·exact absurd e h0
  ·unfold stN at e
   rw [if_neg h0, if_neg h1] at e
   split at e
   ·split at e <;> cases e
   ·exact absurd e h1
theorem stOk_mono {M L L' n : Nat} {s : St} (h : StOk M L s n) (hL : L' ≤ L) : StOk M L' s n := ⟨fun e => let ⟨f, a, b⟩ := h.1 e; ⟨f, a, by omega⟩, h.2⟩
theorem stL_le (N L : Nat) (s : St) : stL N L s ≤ L := by unfold stL; split <;> omega
theorem rn_one (r : Rn) : ∀ u ∈ r.arr.toList, u.oneCell' = true := fun u hu => Array.all_eq_true_iff_forall_mem.1 (Rn.one r) u (by simpa using hu)
abbrev stCells (f : Nat → Nat) : Array Value := #[.int .i64 (f 0 : Int), .int .i64 (f 1 : Int), .int .i64 (f 2 : Int)]
def stUp (f : Nat → Nat) (q : Nat) : Nat → Nat := fun j => if j = q then f q + 1 else f j
theorem st_cell {w : World} {g : Nat} {f : Nat → Nat} (h : w.heap[g]? = some (.cells (stCells f) 76 (0, 0))) {q : Nat} (hq : q < 3) : w.cell? ⟨g, q, none⟩ = some (.int .i64 (f q : Int)) := by
 rw [row_cell h]
 have : q = 0 ∨ q = 1 ∨ q = 2 := by omega
 rcases this with rfl | rfl | rfl <;> rfl
theorem st_set (f : Nat → Nat) {q : Nat} (hq : q < 3) : (stCells f).setIfInBounds q (.int .i64 ((f q : Int) + 1)) = stCells (stUp f q) := by
 have : q = 0 ∨ q = 1 ∨ q = 2 := by omega
 rcases this with rfl | rfl | rfl <;> rfl
theorem FinsAt.keptS {w w' : World} {fA : Option Addr} {fl : List FSl} {S : List Nat} (h : FinsAt w fA fl) (k : Keep S w w') (ha : ∀ z, fA = some z → z.block ∉ S) (hx : ∀ x ∈ fl, ∀ z, x.a = some z → z.block ∉ S) : FinsAt w' fA fl :=
 ⟨Cells.kept h.row k ha, fun x hxm => Cells.kept (h.ops x hxm) k (hx x hxm)⟩
theorem RnRow.set {w : World} {g q : Nat} {rs : List Rn} {r : Rn} (h : RnRow w g rs) (hq : rs[q]? = some r) : ∃ C : Array Value, w.heap[g]? = some (.cells C 43 (0, 0)) ∧ q * 26 + 26 ≤ C.size ∧ (∀ (j : Nat) (v : Value), r.arr[j]? = some v → C[q * 26 + j]? = some v) ∧
  ∀ (R : Rn) (w' : World), w'.heap[g]? = some (.cells (subSet C (q * 26) R.arr) 43 (0, 0)) → RnRow w' g (rs.set q R) := by
 obtain ⟨C, h1, h2, h3⟩ := h.row
 have hl := (List.getElem?_eq_some_iff.1 hq).1
 have hs : q * 26 + 26 ≤ C.size := by omega
 refine ⟨C, h1, hs, h3 q r hq, fun R w' hw => ⟨⟨_, hw, ?_, fun k x hx j v hv => ?_⟩⟩⟩
 ·rw [List.length_set]
  have : (subSet C (q * 26) R.arr).size = C.size := by
   have e : R.arr.size = 26 := rfl
   unfold subSet
   simp [e]
   omega
  omega
 ·have hj : j < 26 := (Array.getElem?_eq_some_iff.1 hv).1
  rw [List.getElem?_set] at hx
  by_cases e : q = k
  ·subst e
   rw [if_pos rfl, if_pos hl] at hx
   injection hx with hx
   subst hx
   exact subSet_in C (q * 26) R.arr hs j v hv
  ·rw [if_neg e] at hx
   rw [subSet_out C (q * 26) R.arr hs (k * 26 + j) (by
    have e26 : R.arr.size = 26 := rfl
    rw [e26]
    rcases Nat.lt_or_gt_of_ne e with h9 | h9
    ·right; omega
    ·left; omega)]
   exact h3 k x hx j v hv
theorem yieldsIf_load_sub {P : Program} {ops : Array Oper} {S : World → Prop} {op : Oper} {a : Act} (hw : Region.wanted op (yielded ops a.tmps) = true) (ty : TypeId) (x : Operand) (ho : op.op = .load ty x)
  (g off : Nat) (hx : a.eval x = .pointer (some ⟨g, off, none⟩)) (t : TypeId) (cur cs : Array Value) (fr : Nat × Nat) (d : TypeDesc) (hS : ∀ w, S w → w.heap[g]? = some (.cells cur t fr))
  (hc : ∀ j v, cs[j]? = some v → cur[off + j]? = some v)
  (hu : P.underlying ty = some d) (hd : (match d with | .struct _ | .array _ _ => true | _ => false) = true) (hi : (P.info? ty).map (·.size) = some cs.size) : YieldsIf P ops S op (.agg cs) a :=
 .inl ⟨hw, fun w hw' => by
  unfold execOp
  simp only [ho, hx, Instr.loadAt, Instr.sureAddr, Sem.run_bind, Sem.run_pure, Result.andThen_ok, run_loadVar_sub w g off t ty cur cs fr d (hS w hw') hc hu hd hi]⟩
abbrev Alls (fs : List (List Fo)) (obs : List Ob) (w : World) (b : Nat) (T : List Nat) (M L : Nat) (l : List St) (rs : List Rn) (chs : List Sl) (f : Nat → Nat) : Prop :=
 ∀ k s, l[k]? = some s → ∃ r ch, rs[k]? = some r ∧ chs[k]? = some ch ∧ RunIs fs obs w b T s ch r ∧ StOk M L s (f k)
theorem Alls.to {fs : List (List Fo)} {obs : List Ob} {w w' : World} {b M L : Nat} {T : List Nat} {l : List St} {rs : List Rn} {chs : List Sl} {f : Nat → Nat} (h : Alls fs obs w b T M L l rs chs f)
  (hh : ∀ s ch r, RunIs fs obs w b T s ch r → RunIs fs obs w' b T s ch r) : Alls fs obs w' b T M L l rs chs f :=
 fun k s hk => let ⟨r, ch, a, b', c, d⟩ := h k s hk; ⟨r, ch, a, b', hh _ _ _ c, d⟩
/-- where all stand -/
structure OnceAt (fs : List (List Fo)) (obs : List Ob) (M N F0 : Nat) (w : World) (p b g12 g13 i L la : Nat) : Prop where
 is : ∃ (e : Nat) (l : List St) (ph : St) (rs : List Rn) (chs : List Sl) (f : Nat → Nat),
  McIn M N L l ph ∧ Tm M F0 (pot N L l ph) i e l ∧ rs.length = M ∧ RnRow w g12 rs ∧ Arn w p b (wsMc fs obs L ph) ∧ w.heap[g13]? = some (.cells (stCells f) 76 (0, 0)) ∧
  (∀ k s, l[k]? = some s → ∃ r ch, rs[k]? = some r ∧ chs[k]? = some ch ∧ RunIs fs obs w b [g12, g13] s ch r ∧ StOk M L s (f k)) ∧ (∀ k, f k ≤ i) ∧ la = if ph.t = 0 then 0 else 1
theorem OnceAt.below {fs : List (List Fo)} {obs : List Ob} {M N F0 : Nat} {w w' : World} {p b g12 g13 i L la : Nat} (h : OnceAt fs obs M N F0 w p b g12 g13 i L la) (hb : Below w.heap.size w w') : OnceAt fs obs M N F0 w' p b g12 g13 i L la := by
 obtain ⟨e, l, ph, rs, chs, f, h1, h2, h3, h4, h5, h6, h7, h8, h9⟩ := h.is
 exact ⟨⟨e, l, ph, rs, chs, f, h1, h2, h3, h4.below hb, h5.below hb, row_below h6 hb, fun k s hk => let ⟨r, ch, a, b, c, d⟩ := h7 k s hk; ⟨r, ch, a, b, c.below hb, d⟩, h8, h9⟩⟩
/-- a step: what holds behind it -/
theorem once_next {fs : List (List Fo)} {obs : List Ob} {M N F0 p b g12 g13 i e q L la : Nat} {w' : World} {l : List St} {ph s : St} {rs : List Rn} {chs : List Sl} {f : Nat → Nat} {R : Rn} {ch : Sl}
  (H : McIn M N L l ph) (hM : 1 ≤ M ∧ M ≤ 3) (hN : 1 ≤ N) (hT : Tm M F0 (pot N L l ph) i e l) (hqM : q < M) (hq : l[q]? = some s) (hd : ¬ s.dn) (hrl : rs.length = M) (hrow : RnRow w' g12 (rs.set q R))
  (hA : Arn w' p b (wsMc fs obs (stL N L s) (stP N L s ph))) (hst : w'.heap[g13]? = some (.cells (stCells (stUp f q)) 76 (0, 0))) (hall : Alls fs obs w' b [g12, g13] M L l rs chs f) (hch : chs[q]? = some ch)
  (hR : RunIs fs obs w' b [g12, g13] (stN N L s) ch R) (hf : ∀ k, f k ≤ i) (hla : la = if (stP N L s ph).t = 0 then 0 else 1) : OnceAt fs obs M N F0 w' p b g12 g13 (i + 1) (stL N L s) la := by
 obtain ⟨m1, m2⟩ := mc_step H hN hq hd
 refine ⟨⟨0, l.set q (stN N L s), stP N L s ph, rs.set q R, chs, stUp f q, m1, tm_step hT hM hqM hq hd m2, by rw [List.length_set]; exact hrl, hrow, hA, hst, fun k z hk => ?_, fun k => ?_, hla⟩⟩
 ·rw [List.getElem?_set] at hk
  by_cases e : q = k
  ·subst e
   rw [if_pos rfl, if_pos (List.getElem?_eq_some_iff.1 hq).1] at hk
   injection hk with hk
   subst hk
   obtain ⟨r, ch', a, b', c, d⟩ := hall q s hq
   refine ⟨R, ch, by rw [List.getElem?_set, if_pos rfl, if_pos (by omega)], hch, hR, ?_⟩
   have e1 : stUp f q q = f q + 1 := by simp [stUp]
   rw [e1]
   exact stOk_next d (fun e1 => by
    rcases H.of hq hd with ⟨_, _, h0 | ⟨_, h, _⟩⟩ | ⟨_, h3, _⟩
    ·omega
    ·exact h
    ·omega)
  ·rw [if_neg e] at hk
   obtain ⟨r, ch', a, b', c, d⟩ := hall k z hk
   refine ⟨r, ch', by rw [List.getElem?_set, if_neg e]; exact a, b', c, ?_⟩
   have e1 : stUp f q k = f k := by simp [stUp, show k ≠ q from fun h => e h.symm]
   rw [e1]
   exact stOk_mono d (stL_le N L s)
 ·have h1 := hf k
  have h2 := hf q
  unfold stUp
  split <;> omega
/-- what is seen of a step -/
theorem once_out {fs : List (List Fo)} {obs : List Ob} {M N L n q : Nat} {w w' : World} {b : Nat} {T T' : List Nat} {l : List St} {ph s : St} {r R : Rn} {ch : Sl}
  (I : AlIn fs obs (c18 1) drC) (H : McIn M N L l ph) (hM : M ≤ 3) (hN : laN fs obs = N) (hq : l[q]? = some s) (hd : ¬ s.dn) (hr : RunIs fs obs w b T s ch r) (hR : RunIs fs obs w' b T' (stN N L s) ch R) (hS : StOk M L s n) :
  (r.pc = 16 ∧ R.pc = 17 ∧ R.done = false ∧ L = 1 ∧ stL N L s = 1 ∧ ph.t = 0 ∧ (stP N L s ph).t = 3) ∨
  ((r.pc ≠ 16 ∨ r.pc = 16 ∧ R.pc ≠ 17) ∧ ((stP N L s ph).t = 0 ↔ ph.t = 0) ∧ (R.done = false ∧ stL N L s = L ∨ R.done = true ∧ 1 ≤ L ∧ stL N L s = L - 1 ∧ (2 ≤ L → R.code = 0 ∧ R.an = 0 ∧ R.asaid = noS ∧ n + 1 + 2 ≤ 2 * M ∧ ctMc fs obs (L - 1) (stP N L s ph) = c18 ((L - 1 : Nat) : Int)))) := by
 obtain ⟨t, m⟩ := s
 rcases H.of hq hd with ⟨hp, hL, hs⟩ | ⟨rfl, h3, hL1, hmN⟩
 ·rcases hs with h0 | ⟨h1, hLm, hmM⟩
  ·obtain rfl : t = 0 := h0
   have e1 : stN N L ⟨0, m⟩ = ⟨1, L⟩ := rfl
   rw [e1] at hR
   rw [hr.k0 rfl, hR.k1 rfl]
   exact .inr ⟨.inl (by show (15 : Int) ≠ 16; decide), by simp [stP], .inl ⟨rfl, by simp [stL]⟩⟩
  ·obtain rfl : t = 1 := h1
   dsimp only at hLm hmM
   by_cases hmL : m = L
   ·subst hmL
    by_cases hm1 : m = 1
    ·subst hm1
     have e1 : stN N 1 ⟨1, 1⟩ = ⟨3, 0⟩ := rfl
     rw [e1] at hR
     obtain ⟨ls, sd, x⟩ := hR.k3 rfl
     rw [hr.k1 rfl]
     exact .inl ⟨rfl, by rw [x.r]; rfl, by rw [x.r]; rfl, rfl, by simp [stL], hp, by simp [stP, stN]⟩
    ·have e1 : stN N m ⟨1, m⟩ = ⟨2, 0⟩ := by simp [stN, hm1]
     have e3 : stP N m ⟨1, m⟩ ph = ph := by simp [stP, hm1]
     rw [e1] at hR
     obtain ⟨m', e⟩ := hR.k2 rfl
     rw [hr.k1 rfl, e, e3]
     refine .inr ⟨.inr ⟨rfl, by show (16 : Int) ≠ 17; decide⟩, Iff.rfl, .inr ⟨rfl, hL, by simp [stL, hm1], fun h2 => ⟨rfl, rfl, rfl, ?_, ?_⟩⟩⟩
     ·obtain ⟨f, h1, h2⟩ := hS.2 rfl
      dsimp only at h2
      omega
     ·unfold ctMc
      rw [if_pos hp]
   ·have e1 : stN N L ⟨1, m⟩ = ⟨0, 0⟩ := by simp [stN, hmL]
    rw [e1] at hR
    rw [hr.k1 rfl, hR.k0 rfl]
    exact .inr ⟨.inr ⟨rfl, by show (15 : Int) ≠ 17; decide⟩, by simp [stP, hmL], .inl ⟨rfl, by simp [stL, hmL]⟩⟩
 ·obtain rfl : t = 3 := h3
  subst hL1
  dsimp only at hmN
  obtain ⟨ls, sd, x⟩ := hr.k3 rfl
  have hpc : r.pc ≠ 16 := by
   have h9 := (I.inn (k := m) (by omega)).pc
   rw [x.r]
   show (laIter fs m (la0 obs)).pc ≠ 16
   omega
  by_cases hl : m + 1 < N
  ·have e1 : stN N 1 ⟨3, m⟩ = ⟨3, m + 1⟩ := by simp [stN, hl]
   have e3 : stP N 1 ⟨3, m⟩ ⟨3, m⟩ = ⟨3, m + 1⟩ := by simp [stP, stN, hl]
   rw [e1] at hR
   obtain ⟨ls', sd', x'⟩ := hR.k3 rfl
   exact .inr ⟨.inl hpc, by rw [e3], .inl ⟨by rw [x'.r]; exact x'.dn, by simp [stL, hl]⟩⟩
  ·have e1 : stN N 1 ⟨3, m⟩ = ⟨4, 0⟩ := by simp [stN, hl]
   have e3 : stP N 1 ⟨3, m⟩ ⟨3, m⟩ = ⟨4, 0⟩ := by simp [stP, stN, hl]
   rw [e1] at hR
   obtain ⟨ls', sd', sa', x', _⟩ := (hR.k4 rfl).is
   exact .inr ⟨.inl hpc, by rw [e3]; simp, .inr ⟨by rw [x']; rfl, Nat.le_refl _, by simp [stL, hl], fun h2 => by omega⟩⟩
/-- the end -/
theorem once_end {fs : List (List Fo)} {obs : List Ob} {M N F0 p b g12 g13 i L la : Nat} {w : World} (h : OnceAt fs obs M N F0 w p b g12 g13 i L la) (hM : 1 ≤ M ∧ M ≤ 3) (hF : F0 ≤ 200) (h9 : i < 900 → ¬ 1 ≤ L) : L = 0 ∧ la = 1 := by
 obtain ⟨e, l, ph, rs, chs, f, H, HT, _, _, _, _, _, _, hla⟩ := h.is
 have h0 : L = 0 := by
  by_cases hL : 1 ≤ L
  ·exact absurd hL (h9 (tm_end HT H hM hF hL))
  ·omega
 subst h0
 refine ⟨rfl, ?_⟩
 rcases H.ph with ⟨_, h, _⟩ | ⟨_, h, _⟩ | ⟨h, _⟩
 ·omega
 ·omega
 ·rw [hla, if_neg (by omega)]
set_option maxRecDepth 100000 in
set_option maxHeartbeats 8000000 in
theorem leaveOnce_walk (A0 : Option Addr) (c0 : Nat) (l0 : List FSl) (A1 : Option Addr) (c1 : Nat) (l1 : List Oj) (a2_l : List Int) (a2_n : Int) (W : World) (hl0 : l0.length ≤ c0) (hc0 : c0 ≤ maxLen) (he0 : Cells W A0 (l0.flatMap fslCells)) (hq0 : ∀ e ∈ l0, FslOk W e) (hl1 : l1.length ≤ c1) (hc1 : c1 ≤ maxLen) (he1 : Cells W A1 (l1.flatMap jCells)) (hq1 : ∀ e ∈ l1, OjOk e) (w2_0 : a2_l.length = 64 ∧ ∀ x ∈ a2_l, 0 ≤ x ∧ x ≤ 255) (w2_1 : 0 ≤ a2_n ∧ a2_n ≤ 255) :
  Calls Tryz.prog 8 #[.slice A0 l0.length c0, .slice A1 l1.length c1, .agg (a2_l.map (Value.int .u8) ++ [Value.int .u8 a2_n]).toArray] W fun r w' => r = .returned (.bool true) ∧ Below W.heap.size W w' := by
 obtain ⟨i0, hi0, hz0, hz1, hz2⟩ := info_parts infoRun26
 obtain ⟨CA, HCA⟩ : ∃ x, Hid ((a2_l.map (Value.int .u8) ++ [Value.int .u8 a2_n]).toArray = x) := ⟨_, Lib.hid rfl⟩
 have HCk : Hid (CA[64]? = some (.int .u8 a2_n) ∧ ∀ j, j < 64 → ∃ x : Int, CA[j]? = some (.int .u8 x) ∧ 0 ≤ x ∧ x ≤ 255) := Lib.hid (by
  rw [← HCA.out]
  refine ⟨?_, fun j hj => ?_⟩
  ·rw [List.getElem?_toArray, List.getElem?_append_right (by simp; omega)]
   simp [w2_0.1]
  ·obtain ⟨x, hx⟩ : ∃ x, a2_l[j]? = some x := ⟨_, List.getElem?_eq_getElem (by rw [w2_0.1]; exact hj)⟩
   refine ⟨x, ?_, w2_0.2 x (List.mem_of_getElem? hx)⟩
   rw [List.getElem?_toArray, List.getElem?_append_left (by simp; omega), List.getElem?_map, hx]
   rfl)
 obtain ⟨M, HM⟩ : ∃ M : Nat, Hid (a2_n % 2 + 2 = (M : Int) ∧ 2 ≤ M ∧ M ≤ 3) := ⟨(a2_n % 2 + 2).toNat, Lib.hid ⟨by omega, by omega, by omega⟩⟩
 have M2 : (2 : Int) ≤ (M : Int) := by have := HM.out; omega
 have M3 : (M : Int) ≤ 3 := by have := HM.out; omega
 have ht2 : a2_n.tmod 2 = (M : Int) - 2 := by have := HM.out; rw [Int.tmod_eq_emod_of_nonneg (by omega)]; omega
 have hmw : IntKind.i64.wrap (2 + ((M : Int) - 2)) = (M : Int) := by rw [IntWalk.i64_in _ (by omega)]; omega
 have hmw2 : IntKind.i64.wrap ((M : Int) - 2) = (M : Int) - 2 := IntWalk.i64_in _ (by omega)
 have hmw3 : 2 + ((M : Int) - 2) = (M : Int) := by omega
 have hmw4 : IntKind.i64.wrap (M : Int) = (M : Int) := IntWalk.i64_in _ (by omega)
 rw [HCA.out]
 obtain ⟨x0, x1⟩ := w2_1
 clear w2_0 HCA
 have HI0 := Lib.hid (finsAt_in he0 hq0)
 have Hq0 := Lib.hid hq0
 have HJ1 := Lib.hid he1
 have Hq1 := Lib.hid hq1
 have Hln := Lib.hid (And.intro (Nat.le_trans hl0 hc0) (Nat.le_trans hl1 hc1))
 have l1I : (l1.length : Int) ≤ 9223372036854775807 := by have := Nat.le_trans hl1 hc1; unfold maxLen at this; omega
 clear hl0 hc0 he0 hq0 hl1 hc1 he1 hq1
 go_enter Tryz.func8, Tryz.ntmps8
 go_upto_region 1 with fail
 refine one_row W _ _ ?_
 intro w0 hr hb
 obtain ⟨g5, Hg5⟩ : ∃ x, Hid (W.heap.size = x) := ⟨_, Lib.hid rfl⟩
 rw [Hg5.out] at hr ⊢
 have HG5 := Lib.hid (lt_of_heap hr)
 have H5 := Lib.hid hr
 have HB := Lib.hid hb
 replace HI0 := Lib.hid (HI0.out.below hb)
 replace HJ1 := Lib.hid (Cells.below HJ1.out hb)
 clear hr hb
 go_wp2_with fail
 refine (shown18_any _).mono ?_
 rintro r w1 ⟨rfl, hb⟩
 replace HB := Lib.hid (below_only HB.out hb)
 replace H5 := Lib.hid (row_below H5.out hb)
 replace HJ1 := Lib.hid (Cells.below HJ1.out hb)
 replace HI0 := Lib.hid (HI0.out.below hb)
 clear hb
 go_wp2_with fail
 refine (fit_any A0 c0 l0 _ HI0.out (fun x hx o ho => ((Hq0.out x hx).o o ho).op) Hln.out.1 (fun x hx => Nat.le_trans (Hq0.out x hx).n.1 (Hq0.out x hx).n.2)).mono ?_
 rintro r w2 ⟨fA, fc, fl, rfl, hft, hb⟩
 replace HB := Lib.hid (below_only HB.out hb)
 replace H5 := Lib.hid (row_below H5.out hb)
 replace HJ1 := Lib.hid (Cells.below HJ1.out hb)
 have HBz := Lib.hid HB.out.size
 have HFs : Hid (fsL fl = fitL (fsL l0)) := Lib.hid hft.is
 have HFa : Hid (FinsAt w2 fA fl) := Lib.hid (hft.fins)
 have HFt := Lib.hid hft
 have HFl : Hid ((∀ z, fA = some z → z.block < w2.heap.size) ∧ ∀ x ∈ fl, ∀ z, x.a = some z → z.block < w2.heap.size) := Lib.hid ⟨fun z hz => own_ltF hft.own z.block (by rw [hz]; rfl), fun x hx z hz => ((hft.at_ x hx).lo z hz).2⟩
 clear hft hb HI0 Hq0
 have c64 : w2.cell? ⟨g5, 64, none⟩ = some (.int .u8 a2_n) := by rw [row_cell H5.out]; exact HCk.out.1
 have z5 := lt_of_heap H5.out
 have Hz5 := Lib.hid z5
 go_wp2_with fail
 clear c64 z5 ht2 hmw hmw2 hmw3 hmw4 x0 x1
 refine (laid_any ⟨fA, fl.length, fc⟩ A1 c1 l1 (M : Int) _ (by have := HM.out; omega) HJ1.out Hq1.out Hln.out.2).mono ?_
 rintro r w3 ⟨p, b, X, qx, dx, rfl, hT, -, hb⟩
 have HA := Lib.hid hT.a
 have HOff : Hid (FinsOff fA fl b) := Lib.hid (HFt.out.off hT.low.2.1)
 have HLw : Hid (w2.heap.size ≤ b ∧ W.heap.size ≤ b ∧ b < w3.heap.size ∧ p < w3.heap.size ∧ w2.heap.size ≤ w3.heap.size ∧ p ≠ b) := Lib.hid ⟨hT.low.2.1, Nat.le_trans HBz.out hT.low.2.1, lt_of_heap hT.a.row, lt_of_heap hT.a.box, hb.size, hT.a.ne⟩
 replace HB := Lib.hid (below_only HB.out hb)
 replace H5 := Lib.hid (row_below H5.out hb)
 replace HFa := Lib.hid (HFa.out.below hb)
 have HI := Lib.hid (alIn_laid (fs := fsL fl) l1 HFs.out)
 obtain ⟨obs, Hobs⟩ : ∃ x, Hid (obsOf l1 = x) := ⟨_, Lib.hid rfl⟩
 rw [Hobs.out] at HI HA
 obtain ⟨N, HN⟩ : ∃ x : Nat, Hid (laN (fsL fl) obs = x ∧ 1 ≤ x ∧ x ≤ 149) := ⟨_, Lib.hid ⟨rfl, by have := (laN_bd HI.out.f8 obs).1; omega, by have h9 := (laN_bd HI.out.f8 obs).2; have h10 := HI.out.nobs; have h11 := HI.out.use; omega⟩⟩
 have Hg5b : Hid (g5 < w2.heap.size ∧ g5 ≠ b) := Lib.hid (by have h9 := Hz5.out; have := HLw.out; omega)
 clear hT hb HJ1 Hq1 HFt HG5 Hz5
 go_upto_region 9 with fail
 refine two_rows w3 _ _ _ _ ?_
 intro w4 hr0 hr1 hb
 obtain ⟨g13, Hg13⟩ : ∃ x, Hid (w3.heap.size + 1 = x) := ⟨_, Lib.hid rfl⟩
 rw [Hg13.out] at hr1 ⊢
 have HR0 := Lib.hid hr0
 have HR1 : Hid (w4.heap[g13]? = some (.cells (stCells fun _ => 0) 76 (0, 0))) := Lib.hid hr1
 have HB4 := Lib.hid hb
 clear hr0 hr1 hb
 go_wp2_with fail
 go_loopw [12, 14] (fun vr vi wz => ∃ (i : Nat) (Ar : Option Addr) (cr : Nat) (chs : List Sl), i ≤ M ∧ vr = .slice Ar i cr ∧ vi = .int .i64 i ∧ chs.length = i ∧ wz.ownsRow w3.heap.size 43 26 (.slice Ar i cr) i ((chs.map call0).flatMap fun r => r.arr.toList) ∧ (Value.slice Ar i cr).ownBlock ≠ some g13 ∧ wz.heap[g13]? = some (.cells (stCells fun _ => 0) 76 (0, 0)) ∧ Below w3.heap.size w3 wz) (fun _ vi _ => (3 - intOf vi).toNat)
 case atStart => exact ⟨0, _, _, [], Nat.zero_le _, rfl, rfl, rfl, own_empty (Nat.le_refl _) HR0.out, by have := Hg13.out; simp [Value.ownBlock]; omega, HR1.out, HB4.out⟩
 case round =>
  obtain ⟨i, Ar, cr, chs, hi, rfl, rfl, hcl, hown, hne, hst, hBr⟩ := hrel
  have Hown := Lib.hid hown
  have Hne := Lib.hid hne
  have Hst := Lib.hid hst
  have HBr := Lib.hid hBr
  have Hcl := Lib.hid hcl
  have iI0 : (0 : Int) ≤ (i : Int) := by omega
  have iI3 : (i : Int) ≤ 3 := by omega
  have iw : IntKind.i64.wrap ((i : Int) + 1) = (i : Int) + 1 := IntWalk.i64_in _ (by omega)
  clear hown hne hst hBr hcl
  by_cases hlt : i < M
  ·have iM : (i : Int) < (M : Int) := by omega
   go_wp2_with fail
   refine (call18_any _).mono ?_
   rintro r w5 ⟨cA, kc, rfl, -, -, hb⟩
   have Hb := Lib.hid hb
   clear hb
   go_upto_region 11 with (at_builtin; refine wpList_append_any _ rfl (.tmp 52) (.tmp 54) _ (by rfl) w3.heap.size 43 i0 _ 26 232 Tryz.underlying33 hi0 hz0 hz1 hz2 rfl (by omega) (.slice Ar i cr) i ((chs.map call0).flatMap fun r => r.arr.toList) (by rfl) (own_below (own_below Hown.out Hb.out) (by go_grown)) (some ⟨w5.heap.size, 0, none⟩) 1 1 (call0 (⟨cA, 1, kc⟩ : Sl)).arr.toList (by rfl) rfl (cells_of (row_new _ _ _)) (rn_one _) (by simp only [maxLen]; omega) (by omega) (by simp; have := HBr.out.size; have := Hb.out.size; omega) ?_; intro v6 w6 hown6 hg6 hat6)
   obtain ⟨A6, c6, rfl, -, -, -⟩ := own_slice hown6
   have hba : Below w5.heap.size w5 (w5.alloc (.cells (call0 (⟨cA, 1, kc⟩ : Sl)).arr 43)) := by go_grown
   have HO6 : Hid (w6.ownsRow w3.heap.size 43 26 (.slice A6 (i + 1) c6) (i + 1) (((chs ++ [(⟨cA, 1, kc⟩ : Sl)]).map call0).flatMap fun r => r.arr.toList)) := Lib.hid (by rw [List.map_append, List.flatMap_append]; simpa using hown6)
   have HNe6 : Hid ((Value.slice A6 (i + 1) c6).ownBlock ≠ some g13) := Lib.hid (by
    rcases hat6 with h | h
    ·rw [h]; exact Hne.out
    ·rw [h]
     have h9 := lt_of_heap (row_below Hst.out Hb.out)
     simp
     omega)
   have HSt6 : Hid (w6.heap[g13]? = some (.cells (stCells fun _ => 0) 76 (0, 0))) := Lib.hid ((hg6.block g13 (Nat.lt_of_lt_of_le (lt_of_heap (row_below Hst.out Hb.out)) hba.size) (fun e => Hne.out e.symm)).trans (row_below (row_below Hst.out Hb.out) hba))
   have HB6 := Lib.hid (Below.grown (below_only (below_only HBr.out Hb.out) hba) hg6 (by simp; have := HBr.out.size; have := Hb.out.size; omega) (fun i hi => own_ge Hown.out i hi))
   have Hl6 : Hid ((chs ++ [(⟨cA, 1, kc⟩ : Sl)]).length = i + 1) := Lib.hid (by rw [List.length_append, Hcl.out]; rfl)
   clear hown6 hg6 hat6 hba
   go_wp2_with fail
   go_roundw
   case rel => exact ⟨i + 1, A6, c6, chs ++ [⟨cA, 1, kc⟩], by omega, rfl, by go_num, Hl6.out, HO6.out, HNe6.out, HSt6.out, HB6.out⟩
   case measure => simp [intOf] <;> omega
  ·have iM : ¬ ((i : Int) < (M : Int)) := by omega
   obtain ⟨g12, hAr, hg12, hRR⟩ : ∃ g12, Ar = some ⟨g12, 0, none⟩ ∧ w3.heap.size ≤ g12 ∧ RnRow wr g12 (chs.map call0) := by
    rcases Hown.out.2 with ⟨_, h0⟩ | ⟨g, cap, cur, h1, h2, h3, h4, h5, h6, h7⟩
    ·omega
    ·injection h1 with e1 e2 e3
     refine ⟨g, e1, h2, ⟨⟨cur, h3, by rw [List.length_map, Hcl.out, h6]; omega, fun k r hk j v hv => ?_⟩⟩⟩
     have hj : j < 26 := (Array.getElem?_eq_some_iff.1 hv).1
     have h8 := flat_get (fun r : Rn => r.arr.toList) 26 (fun _ => rfl) (chs.map call0) k j hj
     rw [hk] at h8
     have h9 : ((chs.map call0).flatMap fun r : Rn => r.arr.toList)[k * 26 + j]? = some v := by rw [h8]; simpa using hv
     rw [← h7, List.getElem?_take] at h9
     split at h9
     ·simpa using h9
     ·cases h9
   subst hAr
   have HRR := Lib.hid hRR
   have Hg12 : Hid (w3.heap.size ≤ g12 ∧ g12 ≠ g13 ∧ w3.heap.size ≤ g13) := Lib.hid ⟨hg12, fun e => Hne.out (by rw [e]; rfl), by have := Hg13.out; omega⟩
   have hF6 : M * (2 * M) ≤ 18 := by
    have h3 : M = 2 ∨ M = 3 := by have := HM.out; omega
    rcases h3 with h3 | h3
    ·rw [h3]; decide
    ·rw [h3]; decide
   have hF7 : M * (2 * M) + N ≤ 200 := by have := HN.out; omega
   obtain ⟨F0, HF0⟩ : ∃ x : Nat, Hid (M * (2 * M) + N = x ∧ x ≤ 200) := ⟨_, Lib.hid ⟨rfl, hF7⟩⟩
   clear hF6 hF7
   obtain rfl : M = i := by omega
   have HO : Hid (OnceAt (fsL fl) obs M N F0 wr p b g12 g13 0 M 0) := Lib.hid (by
    obtain ⟨s1, s2⟩ := mc_start M N (by have := HM.out; omega)
    refine ⟨⟨0, _, _, chs.map call0, chs, fun _ => 0, s1, .inl ⟨by omega, rfl, by rw [s2, HF0.out.1]; exact Nat.le_refl _⟩, by rw [List.length_map, Hcl.out], HRR.out, ?_, Hst.out, fun k s hk => ?_, fun _ => Nat.le_refl _, rfl⟩⟩
    ·rw [wsMc_0 rfl]
     exact HA.out.below HBr.out
    ·have hkM : k < M := by have h9 := (List.getElem?_eq_some_iff.1 hk).1; simpa using h9
     obtain rfl := List.eq_of_mem_replicate (List.mem_of_getElem? hk)
     obtain ⟨ch, hch⟩ : ∃ ch, chs[k]? = some ch := ⟨_, List.getElem?_eq_getElem (by rw [Hcl.out]; omega)⟩
     exact ⟨call0 ch, ch, by rw [List.getElem?_map, hch]; rfl, hch, ⟨fun _ => rfl, fun h => (by cases h), fun h => (by cases h), fun h => (by cases h), fun h => (by cases h)⟩, ⟨fun _ => ⟨0, rfl, by omega⟩, fun h => (by cases h)⟩⟩)
   obtain ⟨w6, hw6⟩ : ∃ x, x = wr := ⟨_, rfl⟩
   subst hw6
   replace HFa := Lib.hid (HFa.out.below HBr.out)
   replace H5 := Lib.hid (row_below H5.out HBr.out)
   replace HB := Lib.hid (below_only HB.out HBr.out)
   clear hlt hi Hst Hown HA HRR hRR hg12
   go_wp2_with fail
   have F2 := HF0.out.2
   go_loopw [15, 16, 17] (fun vl vs vi wz => ∃ i L la : Nat, i ≤ 900 ∧ vl = .int .i64 L ∧ vs = .int .i64 la ∧ vi = .int .i64 i ∧ OnceAt (fsL fl) obs M N F0 wz p b g12 g13 i L la ∧ Keep [b, g12, g13] w6 wz) (fun _ _ vi _ => (900 - intOf vi).toNat)
   case atStart => exact ⟨0, M, 0, by omega, rfl, rfl, rfl, HO.out, Keep.refl _ _⟩
   case round =>
    obtain ⟨i, L, la, hi, rfl, rfl, rfl, hO, hK⟩ := hrel
    have HOz := Lib.hid hO
    have HK := Lib.hid hK
    have iI0 : (0 : Int) ≤ (i : Int) := by omega
    have iI9 : (i : Int) ≤ 900 := by omega
    have iw : IntKind.i64.wrap ((i : Int) + 1) = (i : Int) + 1 := IntWalk.i64_in _ (by omega)
    obtain ⟨w7, hw7⟩ : ∃ x, x = wr := ⟨_, rfl⟩
    subst hw7
    clear hO hK HO
    by_cases hgo : i < 900 ∧ 1 ≤ L
    ·obtain ⟨hlt, hL1⟩ := hgo
     obtain ⟨e, l, ph, rs, chs, f, H, HT, hrl, hrow, hA, hst, hall, hf, hla⟩ := HOz.out.is
     have HH := Lib.hid H
     have HTm := Lib.hid HT
     have Hrl := Lib.hid hrl
     have Hrow := Lib.hid hrow
     have HAz := Lib.hid hA
     have Hst := Lib.hid hst
     have HAll : Hid (Alls (fsL fl) obs w7 b [g12, g13] M L l rs chs f) := Lib.hid hall
     have Hf := Lib.hid hf
     have Hla := Lib.hid hla
     have HLM : Hid (L ≤ 3) := Lib.hid (Nat.le_trans H.LM (by have := HM.out; omega))
     have Hlt := Lib.hid hlt
     have HL1 := Lib.hid hL1
     have iI : (i : Int) < 900 := by omega
     have LI : 0 < L := hL1
     have LI3 : (L : Int) ≤ 3 := by have := HLM.out; omega
     have qw : ∀ x : Nat, x < M → IntKind.i64.wrap (x : Int) = (x : Int) := fun x hx => IntWalk.i64_in _ (by have := HM.out; omega)
     obtain ⟨q0, Hq0⟩ : ∃ x, Hid (i % M = x) := ⟨_, Lib.hid rfl⟩
     have ht : (i : Int).tmod (M : Int) = (q0 : Int) := by rw [← Hq0.out]; rfl
     have mz : ((M : Int) == 0) = false := by simp; have := HM.out; omega
     have mz2 : ¬ ((M : Int) = 0) := by have := HM.out; omega
     have hmod : q0 < M := by rw [← Hq0.out]; exact Nat.mod_lt _ (by have := HM.out; omega)
     have qwi := qw _ hmod
     have H5z := Lib.hid (HK.out.row H5.out (by simp; have h1 := Hg5b.out; have h2 := Hg12.out; have h3 := HLw.out; omega))
     clear hrl hrow hA hst hall hf hla H HT hL1
     go_upto_if 69 with fail
     go_cut [18] from 70 to 76 (fun vq wx => ∃ q : Nat, vq = .int .i64 q ∧ q < M ∧ (64 ≤ i → q = i % M) ∧ w7 = wx)
     case first =>
      by_cases h64 : i < 64
      ·obtain ⟨x, hx, x0, x1⟩ := HCk.out.2 i h64
       obtain ⟨n, rfl⟩ : ∃ n : Nat, x = n := ⟨x.toNat, by omega⟩
       have c5 : w7.cell? ⟨g5, i, none⟩ = some (.int .u8 (n : Int)) := by rw [row_cell H5z.out]; exact hx
       have i64 : (i : Int) < 64 := by omega
       obtain ⟨q1, Hq1⟩ : ∃ x, Hid (n % M = x) := ⟨_, Lib.hid rfl⟩
       have ht2 : (n : Int).tmod (M : Int) = (q1 : Int) := by rw [← Hq1.out]; rfl
       have hmod2 : q1 < M := by rw [← Hq1.out]; exact Nat.mod_lt _ (by have := HM.out; omega)
       have qwn := qw _ hmod2
       have Hm2 := Lib.hid hmod2
       have H64 := Lib.hid h64
       clear hx h64
       go_wp2_with fail
       go_meet
       first | exact ⟨q1, rfl, Hm2.out, fun h => absurd H64.out (by omega), rfl⟩ | ((repeat apply Exists.intro); exact ⟨⟨q1, rfl, Hm2.out, fun h => absurd H64.out (by omega), rfl⟩, rfl⟩)
      ·have i64 : ¬ ((i : Int) < 64) := by omega
       have Hm2 := Lib.hid hmod
       clear h64
       go_wp2_with fail
       go_meet
       first | exact ⟨q0, rfl, Hm2.out, fun h => Hq0.out.symm, rfl⟩ | ((repeat apply Exists.intro); exact ⟨⟨q0, rfl, Hm2.out, fun h => Hq0.out.symm, rfl⟩, rfl⟩)
     case rest =>
      obtain ⟨q, rfl, hqM, hq64, rfl⟩ := hcut
      have HqM := Lib.hid hqM
      have Hq64 := Lib.hid hq64
      obtain ⟨s, hs⟩ : ∃ s, l[q]? = some s := ⟨_, List.getElem?_eq_getElem (by rw [HH.out.len]; exact hqM)⟩
      obtain ⟨r, ch, hr, hch, hR, hSt⟩ := HAll.out q s hs
      have c21 : w7.cell? ⟨g12, q * 26 + 21, none⟩ = some (.bool r.done) := Hrow.out.cell hr rfl
      have c7 : w7.cell? ⟨g12, q * 26 + 7, none⟩ = some (.int .i64 r.pc) := Hrow.out.cell hr rfl
      have qI0 : (0 : Int) ≤ (q : Int) := by omega
      have qIM : (q : Int) < (M : Int) := by omega
      have qI3 : (q : Int) < 3 := by omega
      have Hs := Lib.hid hs
      have Hr := Lib.hid hr
      have Hch := Lib.hid hch
      have HR := Lib.hid hR
      have HSt := Lib.hid hSt
      clear hs hr hch hR hSt ht mz mz2 hmod qwi qw
      by_cases hd : s.dn
      ·have hrd : r.done = true := by rw [HR.out.done (HH.out.kinds s (List.mem_of_getElem? Hs.out))]; exact decide_eq_true hd
       rw [hrd] at c21
       have HSk : Hid (OnceAt (fsL fl) obs M N F0 w7 p b g12 g13 (i + 1) L la) := Lib.hid (by
        obtain ⟨e', he'⟩ := tm_skip HTm.out Hq64.out Hs.out hd
        exact ⟨⟨e', l, ph, rs, chs, f, HH.out, he', Hrl.out, Hrow.out, HAz.out, Hst.out, HAll.out, fun k => Nat.le_succ_of_le (Hf.out k), Hla.out⟩⟩)
       clear hd hrd
       go_wp2_with fail
       go_roundw
       case rel => exact ⟨i + 1, L, la, by have := Hlt.out; omega, rfl, rfl, by go_num, HSk.out, HK.out⟩
       case measure => simp [intOf] <;> omega
      ·have hrd : r.done = false := by rw [HR.out.done (HH.out.kinds s (List.mem_of_getElem? Hs.out))]; exact decide_eq_false hd
       rw [hrd] at c21
       have Hd := Lib.hid hd
       clear hd hrd hq64 hqM
       go_upto_region 23 with fail
       have HFz : Hid (FinsAt w7 fA fl) := Lib.hid (HFa.out.keptS HK.out (fun z hz hm => by have h1 := HFl.out.1 z hz; have h2 := Hg12.out; have h3 := HLw.out; simp at hm; omega) (fun x hx z hz hm => by have h1 := HFl.out.2 x hx z hz; have h2 := Hg12.out; have h3 := HLw.out; simp at hm; omega))
       have HS7 : Hid (b < w7.heap.size ∧ p < w7.heap.size) := Lib.hid ⟨lt_of_heap HAz.out.row, lt_of_heap HAz.out.box⟩
       obtain ⟨C, hC, hCs, hCv, hSet⟩ := Hrow.out.set Hr.out
       have HC := Lib.hid hC
       have HCs := Lib.hid hCs
       have HCv := Lib.hid hCv
       have HSet := Lib.hid hSet
       have H12 : Hid (g12 < w7.heap.size ∧ g13 < w7.heap.size ∧ g12 ≠ b) := Lib.hid ⟨Hrow.out.lt, lt_of_heap Hst.out, by have h2 := Hg12.out; have h3 := HLw.out; omega⟩
       clear hC hCs hCv hSet c7 c21
       try simp only [Act.put]
       go_cut [20, 21] from 87 to 97 (fun va vb wx => ∃ (gR : Nat) (R : Rn), va = .pointer (some ⟨gR, 0, none⟩) ∧ vb = .int .i64 0 ∧ w7.heap.size ≤ gR ∧ wx.heap[gR]? = some (.cells R.arr 43 (0, 0)) ∧ RunIs (fsL fl) obs wx b [g12, g13] (stN N L s) ch R ∧ Arn wx p b (wsMc (fsL fl) obs (stL N L s) (stP N L s ph)) ∧ Keep [b] w7 wx)
       case first =>
        refine wp_region_held_drew (S := fun W' => W'.heap[g12]? = some (.cells C 43 (0, 0))) (by kernel_rfl) HC.out ?_
        intro hS
        have hB0 : Below w7.heap.size w7 w7.drew := Below.drew (Below.refl _ _)
        have hC0 := row_below HC.out hB0
        have hRI := HR.out.below hB0
        have hA0 := HAz.out.below hB0
        have hF0 := HFz.out.below hB0
        have hK0 := Below.keep hB0 [b]
        clear hB0
        generalize w7.drew = y0 at hS hC0 hRI hA0 hF0 hK0 ⊢
        refine tk (i := 1) (v := ?v1x9) (some 89) rfl rfl (Or.inl ⟨by kernel_rfl, ?h1x9⟩) ?r1x9
        case h1x9 => (intro w' hSw; go_simp; first | done | (with_reducible rfl))
        try simp only [zA, zB, zC, zD, zE]
        refine tk (i := 2) (v := ?v2x10) (some 90) rfl rfl (Or.inl ⟨by kernel_rfl, ?h2x10⟩) ?r2x10
        case h2x10 => (intro w' hSw; go_simp; first | done | (with_reducible rfl))
        try simp only [zA, zB, zC, zD, zE]
        refine tk (i := 3) (v := ?v3x11) (some 91) rfl rfl (Or.inl ⟨by kernel_rfl, ?h3x11⟩) ?r3x11
        case h3x11 => (intro w' hSw; go_simp; first | done | (with_reducible rfl))
        try simp only [zA, zB, zC, zD, zE]
        refine tk (i := 4) (v := ?v4x12) (some 92) rfl rfl (Or.inl ⟨by kernel_rfl, ?h4x12⟩) ?r4x12
        case h4x12 => (intro w' hSw; go_simp; first | done | (with_reducible rfl))
        try simp only [zA, zB, zC, zD, zE]
        refine tk (i := 5) (v := ?v5x13) (some 93) rfl rfl (Or.inl ⟨by kernel_rfl, ?h5x13⟩) ?r5x13
        case h5x13 => (intro w' hSw; go_simp; first | done | (with_reducible rfl))
        try simp only [zA, zB, zC, zD, zE]
        refine tk (i := 6) (v := .agg r.arr) (some 94) rfl rfl (yieldsIf_load_sub (by kernel_rfl) 43 (.tmp 93) rfl g12 (q * 26) rfl 43 C r.arr (0, 0) _ (fun W' hW' => hW') HCv.out undRun rfl infoRun) ?_
        try simp only [zA, zB, zC, zD, zE]
        refine wpAnyH_ready (rs := [0, 11]) (by kernel_rfl) (by simp) ?_
        refine AllReadyH.cons rfl (fun K hK => ?_) (AllReadyH.cons rfl (fun K hK => ?_) AllReadyH.nil)
        ·skip
         go_simp
         refine (plan18_any _).mono ?_
         rintro e' yA ⟨rfl, hb⟩
         go_simp
         replace hC0 := row_below hC0 hb
         replace hRI := hRI.below hb
         replace hA0 := hA0.below hb
         replace hF0 := hF0.below hb
         replace hK0 := hK0.trans (Below.keep hb [b])
         clear hb
         refine hK.out _ _ (hC0) (fun hS => ?_)
         clear hK K
         try simp only [zA, zB, zC, zD, zE]
         refine wpAnyH_ready (rs := [7, 11]) (by kernel_rfl) (by simp) ?_
         refine AllReadyH.cons rfl (fun K hK => ?_) (AllReadyH.cons rfl (fun K hK => ?_) AllReadyH.nil)
         ·skip
          go_simp
          refine (mcStep_any HI.out HH.out (by have := HM.out; omega) HN.out.1 Hs.out Hd.out hRI hA0 hF0 (fun j hj => by have h1 := hK0.size; have h2 := H12.out; simp at hj; omega)).mono ?_
          rintro e' yS ⟨hk, R, rfl, hRI', hA'⟩
          go_simp
          replace hC0 := hk.row hC0 (by simp; exact fun h => H12.out.2.2 h)
          replace hF0 := hF0.kept hk HOff.out
          replace hK0 := hK0.trans hk
          clear hk hRI hA0
          have hRI := hRI'
          have hA0 := hA'
          clear hRI' hA'
          refine hK.out _ _ (hC0) (fun hS => ?_)
          clear hK K
          try simp only [zA, zB, zC, zD, zE]
          refine tk (i := 8) (v := ?v8x14) (some 87) rfl rfl (Or.inl ⟨by kernel_rfl, ?h8x14⟩) ?r8x14
          case h8x14 => (intro w' hSw; go_simp; first | done | (with_reducible rfl))
          try simp only [zA, zB, zC, zD, zE]
          refine tk (i := 9) (v := ?v9x15) (some 96) rfl rfl (Or.inl ⟨by kernel_rfl, ?h9x15⟩) ?r9x15
          case h9x15 => (intro w' hSw; go_simp; first | done | (with_reducible rfl))
          try simp only [zA, zB, zC, zD, zE]
          refine tk (i := 10) (v := ?v10x16) (some 97) rfl rfl (Or.inl ⟨by kernel_rfl, ?h10x16⟩) ?r10x16
          case h10x16 => (intro w' hSw; go_simp; first | done | (with_reducible rfl))
          try simp only [zA, zB, zC, zD, zE]
          refine wpAnyH_ready (rs := [11]) (by kernel_rfl) (by simp) ?_
          refine AllReadyH.cons rfl (fun K hK => ?_) AllReadyH.nil
          refine step_alloc_run (some 20) rfl rfl rfl ?_
          refine k_alloc (fun yZ hZ hb => ?_)
          obtain ⟨gZ, HgZ⟩ : ∃ x, x = yS.heap.size := ⟨_, rfl⟩
          have hgZ : w7.heap.size ≤ gZ := by rw [HgZ]; exact hK0.size
          replace hRI := hRI.more (g := gZ) (Nat.le_of_eq HgZ.symm)
          rw [← HgZ] at hZ ⊢
          clear HgZ
          replace hC0 := row_below hC0 hb
          replace hRI := hRI.below hb
          replace hA0 := hA0.below hb
          replace hF0 := hF0.below hb
          replace hK0 := hK0.trans (Below.keep hb [b])
          clear hb
          refine hK.out _ _ (hC0) (fun hS => ?_)
          clear hK K
          try simp only [zA, zB, zC, zD, zE]
          refine wpAnyH_ready (rs := [12]) (by kernel_rfl) (by simp) ?_
          refine AllReadyH.cons rfl (fun K hK => ?_) AllReadyH.nil
          refine step_store_row none rfl rfl 43 (.tmp 20) (.tmp 96) rfl gZ R.arr rfl rfl 43 ZRun hZ infoRun rfl (Rn.one _) ?_
          have hk9 := (Keep.refl [gZ] yZ).setRow (g := gZ) (.inl (by simp)) R.arr
          replace hZ := setRow_heap _ gZ ZRun R.arr _ _ hZ
          replace hRI := (hRI.kept9 hk9 (by simp)).less
          replace hA0 := hA0.kept hk9 (by simp; have h1 := HLw.out; have h2 := HS7.out; omega) (by simp; have h1 := HLw.out; have h2 := HS7.out; omega)
          replace hC0 := hk9.row hC0 (by simp; have h1 := H12.out; omega)
          replace hK0 := hK0.setRow (.inr hgZ) R.arr
          clear hk9
          generalize yZ.setRow gZ R.arr = yT at hZ hC0 hRI hA0 hK0 ⊢
          refine hK.out _ _ (hC0) (fun hS => ?_)
          clear hK K
          try simp only [zA, zB, zC, zD, zE]
          refine tk (i := 13) (v := ?v13x17) (some 21) rfl rfl (Or.inl ⟨by kernel_rfl, ?h13x17⟩) ?r13x17
          case h13x17 => (intro w' hSw; go_simp; first | done | (with_reducible rfl))
          try simp only [zA, zB, zC, zD, zE]
          refine wpAnyH_done (by kernel_rfl) ?_ _
          clear hS
          go_wp2_with fail
          go_meet
          exact ⟨gZ, R, rfl, rfl, hgZ, hZ, hRI, hA0, hK0⟩
         ·skip
          refine step_alloc_run (some 20) rfl rfl rfl ?_
          refine k_alloc (fun yZ hZ hb => ?_)
          obtain ⟨gZ, HgZ⟩ : ∃ x, x = yA.heap.size := ⟨_, rfl⟩
          have hgZ : w7.heap.size ≤ gZ := by rw [HgZ]; exact hK0.size
          replace hRI := hRI.more (g := gZ) (Nat.le_of_eq HgZ.symm)
          rw [← HgZ] at hZ ⊢
          clear HgZ
          replace hC0 := row_below hC0 hb
          replace hRI := hRI.below hb
          replace hA0 := hA0.below hb
          replace hF0 := hF0.below hb
          replace hK0 := hK0.trans (Below.keep hb [b])
          clear hb
          refine hK.out _ _ (hC0) (fun hS => ?_)
          clear hK K
          try simp only [zA, zB, zC, zD, zE]
          refine wpAnyH_ready (rs := [7]) (by kernel_rfl) (by simp) ?_
          refine AllReadyH.cons rfl (fun K hK => ?_) AllReadyH.nil
          go_simp
          refine (mcStep_any HI.out HH.out (by have := HM.out; omega) HN.out.1 Hs.out Hd.out hRI hA0 hF0 (fun j hj => by have h1 := hK0.size; have h2 := H12.out; have h3 := lt_of_heap hZ; simp at hj; omega)).mono ?_
          rintro e' yS ⟨hk, R, rfl, hRI', hA'⟩
          go_simp
          replace hC0 := hk.row hC0 (by simp; exact fun h => H12.out.2.2 h)
          replace hF0 := hF0.kept hk HOff.out
          replace hK0 := hK0.trans hk
          replace hZ := hk.row hZ (by simp; have h1 := HLw.out; have h2 := HS7.out; omega)
          clear hk hRI hA0
          have hRI := hRI'
          have hA0 := hA'
          clear hRI' hA'
          refine hK.out _ _ (hC0) (fun hS => ?_)
          clear hK K
          try simp only [zA, zB, zC, zD, zE]
          refine tk (i := 8) (v := ?v8x18) (some 87) rfl rfl (Or.inl ⟨by kernel_rfl, ?h8x18⟩) ?r8x18
          case h8x18 => (intro w' hSw; go_simp; first | done | (with_reducible rfl))
          try simp only [zA, zB, zC, zD, zE]
          refine tk (i := 9) (v := ?v9x19) (some 96) rfl rfl (Or.inl ⟨by kernel_rfl, ?h9x19⟩) ?r9x19
          case h9x19 => (intro w' hSw; go_simp; first | done | (with_reducible rfl))
          try simp only [zA, zB, zC, zD, zE]
          refine tk (i := 10) (v := ?v10x20) (some 97) rfl rfl (Or.inl ⟨by kernel_rfl, ?h10x20⟩) ?r10x20
          case h10x20 => (intro w' hSw; go_simp; first | done | (with_reducible rfl))
          try simp only [zA, zB, zC, zD, zE]
          refine wpAnyH_ready (rs := [12]) (by kernel_rfl) (by simp) ?_
          refine AllReadyH.cons rfl (fun K hK => ?_) AllReadyH.nil
          refine step_store_row none rfl rfl 43 (.tmp 20) (.tmp 96) rfl gZ R.arr rfl rfl 43 ZRun hZ infoRun rfl (Rn.one _) ?_
          have hk9 := (Keep.refl [gZ] yS).setRow (g := gZ) (.inl (by simp)) R.arr
          replace hZ := setRow_heap _ gZ ZRun R.arr _ _ hZ
          replace hRI := (hRI.kept9 hk9 (by simp)).less
          replace hA0 := hA0.kept hk9 (by simp; have h1 := HLw.out; have h2 := HS7.out; omega) (by simp; have h1 := HLw.out; have h2 := HS7.out; omega)
          replace hC0 := hk9.row hC0 (by simp; have h1 := H12.out; omega)
          replace hK0 := hK0.setRow (.inr hgZ) R.arr
          clear hk9
          generalize yS.setRow gZ R.arr = yT at hZ hC0 hRI hA0 hK0 ⊢
          refine hK.out _ _ (hC0) (fun hS => ?_)
          clear hK K
          try simp only [zA, zB, zC, zD, zE]
          refine tk (i := 13) (v := ?v13x21) (some 21) rfl rfl (Or.inl ⟨by kernel_rfl, ?h13x21⟩) ?r13x21
          case h13x21 => (intro w' hSw; go_simp; first | done | (with_reducible rfl))
          try simp only [zA, zB, zC, zD, zE]
          refine wpAnyH_done (by kernel_rfl) ?_ _
          clear hS
          go_wp2_with fail
          go_meet
          exact ⟨gZ, R, rfl, rfl, hgZ, hZ, hRI, hA0, hK0⟩
        ·skip
         refine step_alloc_run (some 20) rfl rfl rfl ?_
         refine k_alloc (fun yZ hZ hb => ?_)
         obtain ⟨gZ, HgZ⟩ : ∃ x, x = y0.heap.size := ⟨_, rfl⟩
         have hgZ : w7.heap.size ≤ gZ := by rw [HgZ]; exact hK0.size
         replace hRI := hRI.more (g := gZ) (Nat.le_of_eq HgZ.symm)
         rw [← HgZ] at hZ ⊢
         clear HgZ
         replace hC0 := row_below hC0 hb
         replace hRI := hRI.below hb
         replace hA0 := hA0.below hb
         replace hF0 := hF0.below hb
         replace hK0 := hK0.trans (Below.keep hb [b])
         clear hb
         refine hK.out _ _ (hC0) (fun hS => ?_)
         clear hK K
         try simp only [zA, zB, zC, zD, zE]
         refine wpAnyH_ready (rs := [0]) (by kernel_rfl) (by simp) ?_
         refine AllReadyH.cons rfl (fun K hK => ?_) AllReadyH.nil
         go_simp
         refine (plan18_any _).mono ?_
         rintro e' yA ⟨rfl, hb⟩
         go_simp
         replace hC0 := row_below hC0 hb
         replace hRI := hRI.below hb
         replace hA0 := hA0.below hb
         replace hF0 := hF0.below hb
         replace hK0 := hK0.trans (Below.keep hb [b])
         replace hZ := row_below hZ hb
         clear hb
         refine hK.out _ _ (hC0) (fun hS => ?_)
         clear hK K
         try simp only [zA, zB, zC, zD, zE]
         refine wpAnyH_ready (rs := [7]) (by kernel_rfl) (by simp) ?_
         refine AllReadyH.cons rfl (fun K hK => ?_) AllReadyH.nil
         go_simp
         refine (mcStep_any HI.out HH.out (by have := HM.out; omega) HN.out.1 Hs.out Hd.out hRI hA0 hF0 (fun j hj => by have h1 := hK0.size; have h2 := H12.out; have h3 := lt_of_heap hZ; simp at hj; omega)).mono ?_
         rintro e' yS ⟨hk, R, rfl, hRI', hA'⟩
         go_simp
         replace hC0 := hk.row hC0 (by simp; exact fun h => H12.out.2.2 h)
         replace hF0 := hF0.kept hk HOff.out
         replace hK0 := hK0.trans hk
         replace hZ := hk.row hZ (by simp; have h1 := HLw.out; have h2 := HS7.out; omega)
         clear hk hRI hA0
         have hRI := hRI'
         have hA0 := hA'
         clear hRI' hA'
         refine hK.out _ _ (hC0) (fun hS => ?_)
         clear hK K
         try simp only [zA, zB, zC, zD, zE]
         refine tk (i := 8) (v := ?v8x22) (some 87) rfl rfl (Or.inl ⟨by kernel_rfl, ?h8x22⟩) ?r8x22
         case h8x22 => (intro w' hSw; go_simp; first | done | (with_reducible rfl))
         try simp only [zA, zB, zC, zD, zE]
         refine tk (i := 9) (v := ?v9x23) (some 96) rfl rfl (Or.inl ⟨by kernel_rfl, ?h9x23⟩) ?r9x23
         case h9x23 => (intro w' hSw; go_simp; first | done | (with_reducible rfl))
         try simp only [zA, zB, zC, zD, zE]
         refine tk (i := 10) (v := ?v10x24) (some 97) rfl rfl (Or.inl ⟨by kernel_rfl, ?h10x24⟩) ?r10x24
         case h10x24 => (intro w' hSw; go_simp; first | done | (with_reducible rfl))
         try simp only [zA, zB, zC, zD, zE]
         refine wpAnyH_ready (rs := [12]) (by kernel_rfl) (by simp) ?_
         refine AllReadyH.cons rfl (fun K hK => ?_) AllReadyH.nil
         refine step_store_row none rfl rfl 43 (.tmp 20) (.tmp 96) rfl gZ R.arr rfl rfl 43 ZRun hZ infoRun rfl (Rn.one _) ?_
         have hk9 := (Keep.refl [gZ] yS).setRow (g := gZ) (.inl (by simp)) R.arr
         replace hZ := setRow_heap _ gZ ZRun R.arr _ _ hZ
         replace hRI := (hRI.kept9 hk9 (by simp)).less
         replace hA0 := hA0.kept hk9 (by simp; have h1 := HLw.out; have h2 := HS7.out; omega) (by simp; have h1 := HLw.out; have h2 := HS7.out; omega)
         replace hC0 := hk9.row hC0 (by simp; have h1 := H12.out; omega)
         replace hK0 := hK0.setRow (.inr hgZ) R.arr
         clear hk9
         generalize yS.setRow gZ R.arr = yT at hZ hC0 hRI hA0 hK0 ⊢
         refine hK.out _ _ (hC0) (fun hS => ?_)
         clear hK K
         try simp only [zA, zB, zC, zD, zE]
         refine tk (i := 13) (v := ?v13x25) (some 21) rfl rfl (Or.inl ⟨by kernel_rfl, ?h13x25⟩) ?r13x25
         case h13x25 => (intro w' hSw; go_simp; first | done | (with_reducible rfl))
         try simp only [zA, zB, zC, zD, zE]
         refine wpAnyH_done (by kernel_rfl) ?_ _
         clear hS
         go_wp2_with fail
         go_meet
         exact ⟨gZ, R, rfl, rfl, hgZ, hZ, hRI, hA0, hK0⟩
       case rest =>
        obtain ⟨gR, R, rfl, rfl, hgR, hRr, hRI, hA8, hK8⟩ := hcut
        obtain ⟨w8, hw8⟩ : ∃ x, x = wc := ⟨_, rfl⟩
        subst hw8
        have HgR : Hid (gR ≠ g12 ∧ gR ≠ g13) := Lib.hid ⟨by have h1 := H12.out; omega, by have h1 := H12.out; omega⟩
        have HRr := Lib.hid hRr
        have HRI := Lib.hid hRI
        have HA8 := Lib.hid hA8
        have HK8 := Lib.hid hK8
        have HOut := Lib.hid (once_out HI.out HH.out (by have := HM.out; omega) HN.out.1 Hs.out Hd.out HR.out hRI HSt.out)
        have HC8 := Lib.hid (hK8.row HC.out (by simp; exact fun h => H12.out.2.2 h))
        have Hst8 := Lib.hid (hK8.row Hst.out (by simp; have h2 := Hg12.out; have h3 := HLw.out; omega))
        have HAll8 : Hid (Alls (fsL fl) obs w8 b [g12, g13] M L l rs chs f) := Lib.hid (HAll.out.to fun s ch r h => h.kept hK8)
        clear hgR hRr hRI hA8 hK8
        go_upto_region 25 with (first | (refine wpList_load_row rfl 43 (.tmp 20) rfl gR rfl 43 R.arr (0, 0) _ HRr.out undRun rfl infoRun ?_; (try simp only [zA, zB, zC, zD, zE])) | (refine wpList_store_sub rfl 43 (.tmp 101) (.tmp 100) rfl g12 (q * 26) R.arr rfl rfl 43 C HC8.out infoRun HCs.out (Rn.one _) ?_; (try simp only [zA, zB, zC, zD, zE])))
        have hr9 := setRow_heap w8 g12 C (subSet C (q * 26) R.arr) _ _ HC8.out
        have hk9 := (Keep.refl [g12] w8).setRow (g := g12) (.inl (by simp)) (subSet C (q * 26) R.arr)
        generalize hw9 : w8.setRow g12 (subSet C (q * 26) R.arr) = w9 at hr9 hk9 ⊢
        clear hw9
        have HRow9 := Lib.hid (HSet.out R w9 hr9)
        have HRI9 := Lib.hid (HRI.out.kept9 hk9 (by simp))
        have HAll9 : Hid (Alls (fsL fl) obs w9 b [g12, g13] M L l rs chs f) := Lib.hid (HAll8.out.to fun s ch r h => h.kept9 hk9 (by simp))
        have HA9 := Lib.hid (HA8.out.kept hk9 (by simp; have h2 := Hg12.out; have h3 := HLw.out; omega) (by simp; have h2 := Hg12.out; have h3 := HLw.out; omega))
        have Hst9 := Lib.hid (hk9.row Hst8.out (by simp; have h2 := Hg12.out; omega))
        have HR9 := Lib.hid (hk9.row HRr.out (by simp; exact HgR.out.1))
        have HK9 : Hid (Keep [b, g12, g13] w7 w9) := Lib.hid ((HK8.out.sub (by simp)).trans (hk9.sub (by simp)))
        obtain ⟨nq, Hnq⟩ : ∃ x, Hid (f q = x) := ⟨_, Lib.hid rfl⟩
        have c13 : w9.cell? ⟨g13, q, none⟩ = some (.int .i64 (nq : Int)) := by rw [← Hnq.out]; exact st_cell Hst9.out (by have h1 := HM.out; have h2 := HqM.out; omega)
        have f13 : w9.frozen? ⟨g13, q, none⟩ = false := row_frozen Hst9.out _
        have nw : IntKind.i64.wrap ((nq : Int) + 1) = (nq : Int) + 1 := IntWalk.i64_in _ (by have h1 := Hf.out q; have h2 := Hnq.out; have h3 := Hlt.out; omega)
        clear hr9 hk9 HRr HRI HAll8 HA8 Hst8 HC8 HK8 HC HCs HCv HSet HAll Hst HAz Hrow
        go_upto_region 26 with fail
        have hrA := row_set Hst9.out (i := q) (.int .i64 ((nq : Int) + 1))
        have hkA : Keep [g13] w9 (w9.setCell ⟨g13, q, none⟩ (.int .i64 ((nq : Int) + 1))) := (Keep.refl [g13] w9).setCell (.inl (by simp)) _
        generalize hwA : w9.setCell ⟨g13, q, none⟩ (.int .i64 ((nq : Int) + 1)) = wA at hrA hkA ⊢
        clear hwA c13 f13
        have HstA : Hid (wA.heap[g13]? = some (.cells (stCells (stUp f q)) 76 (0, 0))) := Lib.hid (by rw [hrA, ← Hnq.out, st_set f (by have h1 := HM.out; have h2 := HqM.out; omega)])
        have HRowA := Lib.hid (HRow9.out.kept hkA (by simp; exact Hg12.out.2.1))
        have HRIA := Lib.hid (HRI9.out.kept9 hkA (by simp))
        have HAllA : Hid (Alls (fsL fl) obs wA b [g12, g13] M L l rs chs f) := Lib.hid (HAll9.out.to fun s ch r h => h.kept9 hkA (by simp))
        have HAA := Lib.hid (HA9.out.kept hkA (by simp; have h2 := Hg12.out; have h3 := HLw.out; omega) (by simp; have h2 := Hg12.out; have h3 := HLw.out; omega))
        have HRA := Lib.hid (hkA.row HR9.out (by simp; exact HgR.out.2))
        have HKA : Hid (Keep [b, g12, g13] w7 wA) := Lib.hid (HK9.out.trans (hkA.sub (by simp)))
        have HN1 : Hid (1 ≤ N) := Lib.hid HN.out.2.1
        have HMc := Lib.hid (mc_step HH.out HN1.out Hs.out Hd.out).1
        have HCt := Lib.hid (ctMc_at HI.out HMc.out (by have := HM.out; omega) HN.out.1)
        clear hrA hkA HRow9 HRI9 HAll9 HA9 HR9 HK9 Hst9
        go_wp2_with fail
        refine (plan18_any _).mono ?_
        rintro r' wB ⟨rfl, hb⟩
        have HBp := Lib.hid hb
        clear hb
        go_wp2_with fail
        refine (foundCtl_any p b 2 4 0 512 _ 8 1 _ _ plan18 (HAA.out.below HBp.out) HCt.out.2 HCt.out.1 (by decide) (by decide)).mono ?_
        rintro r' wC ⟨rfl, hb⟩
        replace HBp := Lib.hid (below_only HBp.out hb)
        clear hb
        obtain ⟨D, HD⟩ : ∃ x, Hid (ctMc (fsL fl) obs (stL N L s) (stP N L s ph) = x) := ⟨_, Lib.hid rfl⟩
        rw [HD.out]
        go_upto_region 27 with fail
        refine one_row wC _ _ ?_
        intro wE hr hb
        obtain ⟨g22, Hg22⟩ : ∃ x, Hid (wC.heap.size = x) := ⟨_, Lib.hid rfl⟩
        rw [Hg22.out] at hr ⊢
        have H22 : Hid (wE.heap[g22]? = some (.cells #[.int .i64 D.st, .int .i64 D.n, .int .i64 D.p, .int .i64 D.ep] 61 (0, 0))) := Lib.hid hr
        replace HBp := Lib.hid (below_only HBp.out hb)
        clear hr hb Hg22
        have HNx := fun la' hla' => once_next HH.out ⟨by have := HM.out; omega, by have := HM.out; omega⟩ HN1.out HTm.out HqM.out Hs.out Hd.out Hrl.out (HRowA.out.below HBp.out) (HAA.out.below HBp.out) (row_below HstA.out HBp.out) (HAllA.out.to fun s ch r h => h.below HBp.out) Hch.out (HRIA.out.below HBp.out) Hf.out (la := la') hla'
        have HKE : Hid (Keep [b, g12, g13] w6 wE) := Lib.hid (HK.out.trans (HKA.out.trans (Below.keep HBp.out _)))
        have HRE := Lib.hid (row_below HRA.out HBp.out)
        have HstE := Lib.hid (row_below HstA.out HBp.out)
        have cR7 : wE.cell? ⟨gR, 7, none⟩ = some (.int .i64 R.pc) := by rw [row_cell HRE.out]; rfl
        have cR21 : wE.cell? ⟨gR, 21, none⟩ = some (.bool R.done) := by rw [row_cell HRE.out]; rfl
        have hLa := Hla.out
        have HNx := Lib.hid HNx
        clear HRowA HRIA HAllA HAA HRA HKA HCt HBp
        rcases HOut.out with ⟨e1, e2, e3, e4, e5, e6, e7⟩ | ⟨hp, hph, hfin⟩
        ·subst e4
         rw [e2] at cR7
         rw [e3] at cR21
         rw [if_pos e6] at hLa
         subst hLa
         have hD : D = drC := by rw [← HD.out, e5]; unfold ctMc; rw [if_neg (by omega), if_pos e7]
         have c220 : wE.cell? ⟨g22, 0, none⟩ = some (.int .i64 3) := by rw [row_cell H22.out, hD]; rfl
         have HO' := HNx.out 1 (by rw [if_neg (by omega)])
         rw [e5] at HO'
         replace HO' := Lib.hid HO'
         clear e2 e3 e5 e6 e7 hD HNx
         go_wp2_with fail
         go_roundw
         case rel => exact ⟨i + 1, 1, 1, by have := Hlt.out; omega, rfl, rfl, by go_num, HO'.out, HKE.out⟩
         case measure => simp [intOf] <;> omega
        ·have hla' : la = if (stP N L s ph).t = 0 then 0 else 1 := by
          rw [hLa]
          by_cases h0 : ph.t = 0
          ·rw [if_pos h0, if_pos (hph.2 h0)]
          ·rw [if_neg h0, if_neg (fun h => h0 (hph.1 h))]
         have HO' := Lib.hid (HNx.out la hla')
         clear hLa hla' HNx hph
         rcases hfin with ⟨f1, f2⟩ | ⟨f1, f2, f3, f4⟩
         ·rw [f1] at cR21
          rw [f2] at HO'
          clear f1 f2
          rcases hp with hp | ⟨hp, hp2⟩
          ·go_wp2_with fail
           go_roundw
           case rel => exact ⟨i + 1, L, la, by have := Hlt.out; omega, rfl, rfl, by go_num, HO'.out, HKE.out⟩
           case measure => simp [intOf] <;> omega
          ·go_wp2_with fail
           go_roundw
           case rel => exact ⟨i + 1, L, la, by have := Hlt.out; omega, rfl, rfl, by go_num, HO'.out, HKE.out⟩
           case measure => simp [intOf] <;> omega
         ·rw [f1] at cR21
          rw [f3] at HO'
          obtain ⟨L2, HL2⟩ : ∃ x, Hid (L - 1 = x) := ⟨_, Lib.hid rfl⟩
          have lw : IntKind.i64.wrap ((L : Int) - 1) = (L2 : Int) := by rw [IntWalk.i64_in _ (by omega)]; have := HL2.out; omega
          rw [HL2.out] at HO'
          by_cases h2 : 2 ≤ L
          ·obtain ⟨g1, g2, g3, g4, g5⟩ := f4 h2
           have hD : D = c18 (L2 : Int) := by rw [← HD.out, f3, g5, HL2.out]
           have cR23 : wE.cell? ⟨gR, 23, none⟩ = some (.int .i64 0) := by rw [row_cell HRE.out, ← g1]; rfl
           have cR24 : wE.cell? ⟨gR, 24, none⟩ = some (.int .i64 0) := by rw [row_cell HRE.out, ← g2]; rfl
           have cR25 : wE.cell? ⟨gR, 25, none⟩ = some (.slice none 0 0) := by
            rw [row_cell HRE.out]
            show some R.asaid.v = _
            rw [g3]
           have c220 : wE.cell? ⟨g22, 0, none⟩ = some (.int .i64 2) := by rw [row_cell H22.out, hD]; rfl
           have c221 : wE.cell? ⟨g22, 1, none⟩ = some (.int .i64 (L2 : Int)) := by rw [row_cell H22.out, hD]; rfl
           have c222 : wE.cell? ⟨g22, 2, none⟩ = some (.int .i64 0) := by rw [row_cell H22.out, hD]; rfl
           have c223 : wE.cell? ⟨g22, 3, none⟩ = some (.int .i64 4) := by rw [row_cell H22.out, hD]; rfl
           have c13 : wE.cell? ⟨g13, q, none⟩ = some (.int .i64 ((nq : Int) + 1)) := by
            have h9 := st_cell HstE.out (q := q) (by have h1 := HM.out; have h2 := HqM.out; omega)
            rw [h9]
            have : stUp f q q = nq + 1 := by simp [stUp, Hnq.out]
            rw [this]
            rfl
           have L2p : 0 < L2 := by have := HL2.out; omega
           have mw1 : IntKind.i64.wrap (2 * (M : Int)) = 2 * (M : Int) := IntWalk.i64_in _ (by omega)
           have mw2 : IntKind.i64.wrap (2 * (M : Int) - 2) = 2 * (M : Int) - 2 := IntWalk.i64_in _ (by omega)
           have nle : ¬ (2 * (M : Int) - 2 < (nq : Int) + 1) := by have := Hnq.out; omega
           clear f4 g1 g2 g3 g4 g5 hD f1 f2 f3 h2
           rcases hp with hp | ⟨hp, hp2⟩
           ·go_wp2_with fail
            go_roundw
            case rel => exact ⟨i + 1, L2, la, by have := Hlt.out; omega, rfl, rfl, by go_num, HO'.out, HKE.out⟩
            case measure => simp [intOf] <;> omega
           ·go_wp2_with fail
            go_roundw
            case rel => exact ⟨i + 1, L2, la, by have := Hlt.out; omega, rfl, rfl, by go_num, HO'.out, HKE.out⟩
            case measure => simp [intOf] <;> omega
          ·obtain rfl : L2 = 0 := by have := HL2.out; omega
           clear f4 f1 f2 f3 h2
           rcases hp with hp | ⟨hp, hp2⟩
           ·go_wp2_with fail
            go_roundw
            case rel => exact ⟨i + 1, 0, la, by have := Hlt.out; omega, rfl, rfl, by go_num, HO'.out, HKE.out⟩
            case measure => simp [intOf] <;> omega
           ·go_wp2_with fail
            go_roundw
            case rel => exact ⟨i + 1, 0, la, by have := Hlt.out; omega, rfl, rfl, by go_num, HO'.out, HKE.out⟩
            case measure => simp [intOf] <;> omega
    ·have hE := once_end HOz.out ⟨by have := HM.out; omega, by have := HM.out; omega⟩ F2 (fun h1 h2 => hgo ⟨h1, h2⟩)
     obtain ⟨rfl, rfl⟩ := hE
     have HBe := Lib.hid (Keep.under HB.out HK.out (by have := HB.out.size; omega) (by simp; have h1 := Hg12.out; have h2 := HLw.out; have h3 := HB.out.size; omega))
     clear hgo
     by_cases h9 : i < 900
     ·have iI : (i : Int) < 900 := by omega
      go_wp2_with fail
      go_ret
      exact ⟨rfl, HBe.out⟩
     ·have iI : ¬ ((i : Int) < 900) := by omega
      go_wp2_with fail
      go_ret
      exact ⟨rfl, HBe.out⟩
end Go.Proofs.YtbijaloeilnjoaaGreat
