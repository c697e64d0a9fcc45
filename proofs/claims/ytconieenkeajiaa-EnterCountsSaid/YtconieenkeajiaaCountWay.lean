/- Layer 17: four who enter, and their states. -/
import Derived.Test.YtconieenkeajiaaWay
namespace Go.Proofs.Ytconieenkeajiaa
open Go.RowKit
set_option linter.unusedVariables false
set_option linter.unusedSimpArgs false

set_option linter.unusedSimpArgs false
set_option linter.unusedVariables false

/-- about to look; about to enter, having met v within; done -/
inductive St where
  | F
  | W (v : Nat)
  | D
def n1 : St → Nat
  | .D => 0
  | _ => 1
def st1 (c : Nat) : St → Nat
  | .W v => if v = c then 0 else 1
  | _ => 0
def pt1 (c : Nat) : St → Nat
  | .F => 2
  | .W v => if v = c then 1 else 3
  | .D => 0
def okW (k c : Nat) : St → Prop
  | .W v => k ≤ v ∧ v ≤ c ∧ v ≤ 6
  | _ => True
/-- how many own steps behind the thirtieth -/
def own (t i : Nat) : Nat := (i + 3 - t) / 4 - (33 - t) / 4
def tm1 (nd c t i : Nat) (s : St) : Prop := n1 s = 0 ∨ pt1 c s + 2 * nd + own t i ≤ 10
def Inv (k i : Nat) (l : List St) (inn out fails : Nat) : Prop :=
  match l with
  | [a, b, x, d] => k + inn ≤ 7 ∧ (okW k (k + inn) a ∧ okW k (k + inn) b ∧ okW k (k + inn) x ∧ okW k (k + inn) d) ∧ inn + out + (n1 a + n1 b + n1 x + n1 d) = 4 ∧ (out = 0 ∨ k + inn = 7) ∧
      fails + (st1 (k + inn) a + st1 (k + inn) b + st1 (k + inn) x + st1 (k + inn) d) ≤ 3 * inn ∧
      (tm1 (n1 a + n1 b + n1 x + n1 d) (k + inn) 0 i a ∧ tm1 (n1 a + n1 b + n1 x + n1 d) (k + inn) 1 i b ∧ tm1 (n1 a + n1 b + n1 x + n1 d) (k + inn) 2 i x ∧ tm1 (n1 a + n1 b + n1 x + n1 d) (k + inn) 3 i d)
  | _ => False

theorem Inv.start (k : Nat) (hk : k ≤ 7) : Inv k 0 [.F, .F, .F, .F] 0 0 0 := by
  simp [Inv, okW, n1, st1, tm1, pt1, own]
  omega
theorem own_next (t i : Nat) (ht : t < 4) : own t (i + 1) ≤ own t i + 1 ∧ (i < 30 → own t (i + 1) = own t i) ∧ (i % 4 ≠ t → own t (i + 1) = own t i) := by
  unfold own
  omega
theorem tm_other {nd nd' c t i : Nat} {s : St} (h : tm1 nd c t i s) (hn : nd' ≤ nd) (ho : own t (i + 1) = own t i) : tm1 nd' c t (i + 1) s := by
  unfold tm1 at *
  rcases h with h | h
  · exact .inl h
  · right; omega
theorem tm_in {k nd c t i : Nat} {s : St} (h : tm1 (nd + 1) c t i s) (hw : okW k c s) (ho : own t (i + 1) = own t i) : tm1 nd (c + 1) t (i + 1) s := by
  unfold tm1 at *
  rcases h with h | h
  · exact .inl h
  · right
    cases s with
    | F => simp only [pt1] at *; omega
    | D => simp only [pt1] at *; omega
    | W v =>
      simp only [pt1, okW] at *
      rw [if_neg (by omega)]
      split at h <;> omega
theorem st_in {k c : Nat} {s : St} (hw : okW k c s) : st1 (c + 1) s ≤ st1 c s + n1 s ∧ (okW k (c + 1) s) := by
  cases s with
  | F => simp [st1, n1, okW]
  | D => simp [st1, n1, okW]
  | W v =>
    simp only [st1, n1, okW] at *
    refine ⟨?_, by omega⟩
    rw [if_neg (by omega)]
    omega
theorem n1_bd (s : St) : n1 s ≤ 1 := by cases s <;> simp [n1]

/-- whose turn it is: anybody's at first, then in turn -/
def Turn4 (i kn : Nat) : Prop := kn < 4 ∧ (i < 30 ∨ kn = i % 4)
theorem own_oth {i kn t : Nat} (h : Turn4 i kn) (ht : t < 4) (hne : t ≠ kn) : own t (i + 1) = own t i := by
  obtain ⟨h1, h2, h3⟩ := own_next t i ht
  rcases h.2 with h | h
  · exact h2 h
  · exact h3 (by omega)
theorem own_self {i kn : Nat} (h : kn < 4) : own kn (i + 1) ≤ own kn i + 1 := (own_next kn i h).1

theorem four {α : Type} {l : List α} {kn : Nat} {s : α} {P : List α → Prop} (hl : l.length = 4) (hk : l[kn]? = some s)
    (h0 : ∀ b x d, l = [s, b, x, d] → kn = 0 → P l) (h1 : ∀ a x d, l = [a, s, x, d] → kn = 1 → P l) (h2 : ∀ a b d, l = [a, b, s, d] → kn = 2 → P l) (h3 : ∀ a b x, l = [a, b, x, s] → kn = 3 → P l) : P l := by
  match l, hl with
  | [a, b, x, d], _ =>
    match kn, hk with
    | 0, hk => simp at hk; subst hk; exact h0 _ _ _ rfl rfl
    | 1, hk => simp at hk; subst hk; exact h1 _ _ _ rfl rfl
    | 2, hk => simp at hk; subst hk; exact h2 _ _ _ rfl rfl
    | 3, hk => simp at hk; subst hk; exact h3 _ _ _ rfl rfl
theorem Inv.len {k i : Nat} {l : List St} {inn out fails : Nat} (h : Inv k i l inn out fails) : l.length = 4 := by
  unfold Inv at h
  split at h
  · rfl
  · exact h.elim

theorem Inv.look {k i kn : Nat} {l : List St} {inn out fails : Nat} (h : Inv k i l inn out fails) (ht : Turn4 i kn) (hk : l[kn]? = some .F) (hlt : k + inn < 7) : Inv k (i + 1) (l.set kn (.W (k + inn))) inn out fails := by
  have hl := h.len
  revert h
  refine four (P := fun l => Inv k i l inn out fails → Inv k (i + 1) (l.set kn (.W (k + inn))) inn out fails) hl hk ?_ ?_ ?_ ?_
  · rintro b x d rfl rfl h
    obtain ⟨hc, ⟨w0, w1, w2, w3⟩, ht1, ho, hf, ⟨t0, t1, t2, t3⟩⟩ := h
    have o1 := own_oth ht (t := 1) (by omega) (by omega)
    have o2 := own_oth ht (t := 2) (by omega) (by omega)
    have o3 := own_oth ht (t := 3) (by omega) (by omega)
    have oq := own_self (i := i) ht.1
    have b1 := n1_bd b
    have b2 := n1_bd x
    have b3 := n1_bd d
    exact ⟨hc, ⟨⟨by omega, by omega, by omega⟩, w1, w2, w3⟩, by simp only [n1] at *; omega, ho, by simp only [st1, if_true] at *; omega, ⟨(by unfold tm1 at *; simp only [n1, pt1, if_true] at *; omega), tm_other t1 (by simp only [n1]; omega) o1, tm_other t2 (by simp only [n1]; omega) o2, tm_other t3 (by simp only [n1]; omega) o3⟩⟩
  · rintro a x d rfl rfl h
    obtain ⟨hc, ⟨w0, w1, w2, w3⟩, ht1, ho, hf, ⟨t0, t1, t2, t3⟩⟩ := h
    have o0 := own_oth ht (t := 0) (by omega) (by omega)
    have o2 := own_oth ht (t := 2) (by omega) (by omega)
    have o3 := own_oth ht (t := 3) (by omega) (by omega)
    have oq := own_self (i := i) ht.1
    have b0 := n1_bd a
    have b2 := n1_bd x
    have b3 := n1_bd d
    exact ⟨hc, ⟨w0, ⟨by omega, by omega, by omega⟩, w2, w3⟩, by simp only [n1] at *; omega, ho, by simp only [st1, if_true] at *; omega, ⟨tm_other t0 (by simp only [n1]; omega) o0, (by unfold tm1 at *; simp only [n1, pt1, if_true] at *; omega), tm_other t2 (by simp only [n1]; omega) o2, tm_other t3 (by simp only [n1]; omega) o3⟩⟩
  · rintro a b d rfl rfl h
    obtain ⟨hc, ⟨w0, w1, w2, w3⟩, ht1, ho, hf, ⟨t0, t1, t2, t3⟩⟩ := h
    have o0 := own_oth ht (t := 0) (by omega) (by omega)
    have o1 := own_oth ht (t := 1) (by omega) (by omega)
    have o3 := own_oth ht (t := 3) (by omega) (by omega)
    have oq := own_self (i := i) ht.1
    have b0 := n1_bd a
    have b1 := n1_bd b
    have b3 := n1_bd d
    exact ⟨hc, ⟨w0, w1, ⟨by omega, by omega, by omega⟩, w3⟩, by simp only [n1] at *; omega, ho, by simp only [st1, if_true] at *; omega, ⟨tm_other t0 (by simp only [n1]; omega) o0, tm_other t1 (by simp only [n1]; omega) o1, (by unfold tm1 at *; simp only [n1, pt1, if_true] at *; omega), tm_other t3 (by simp only [n1]; omega) o3⟩⟩
  · rintro a b x rfl rfl h
    obtain ⟨hc, ⟨w0, w1, w2, w3⟩, ht1, ho, hf, ⟨t0, t1, t2, t3⟩⟩ := h
    have o0 := own_oth ht (t := 0) (by omega) (by omega)
    have o1 := own_oth ht (t := 1) (by omega) (by omega)
    have o2 := own_oth ht (t := 2) (by omega) (by omega)
    have oq := own_self (i := i) ht.1
    have b0 := n1_bd a
    have b1 := n1_bd b
    have b2 := n1_bd x
    exact ⟨hc, ⟨w0, w1, w2, ⟨by omega, by omega, by omega⟩⟩, by simp only [n1] at *; omega, ho, by simp only [st1, if_true] at *; omega, ⟨tm_other t0 (by simp only [n1]; omega) o0, tm_other t1 (by simp only [n1]; omega) o1, tm_other t2 (by simp only [n1]; omega) o2, (by unfold tm1 at *; simp only [n1, pt1, if_true] at *; omega)⟩⟩


theorem Inv.refused {k i kn : Nat} {l : List St} {inn out fails : Nat} (h : Inv k i l inn out fails) (ht : Turn4 i kn) (hk : l[kn]? = some .F) (heq : k + inn = 7) : Inv k (i + 1) (l.set kn .D) inn (out + 1) fails := by
  have hl := h.len
  revert h
  refine four (P := fun l => Inv k i l inn out fails → Inv k (i + 1) (l.set kn .D) inn (out + 1) fails) hl hk ?_ ?_ ?_ ?_
  · rintro b x d rfl rfl h
    obtain ⟨hc, ⟨w0, w1, w2, w3⟩, ht1, ho, hf, ⟨t0, t1, t2, t3⟩⟩ := h
    have o1 := own_oth ht (t := 1) (by omega) (by omega)
    have o2 := own_oth ht (t := 2) (by omega) (by omega)
    have o3 := own_oth ht (t := 3) (by omega) (by omega)
    have oq := own_self (i := i) ht.1
    have b1 := n1_bd b
    have b2 := n1_bd x
    have b3 := n1_bd d
    exact ⟨hc, ⟨trivial, w1, w2, w3⟩, by simp only [n1] at *; omega, .inr heq, by simp only [st1] at *; omega, ⟨(.inl rfl), tm_other t1 (by simp only [n1]; omega) o1, tm_other t2 (by simp only [n1]; omega) o2, tm_other t3 (by simp only [n1]; omega) o3⟩⟩
  · rintro a x d rfl rfl h
    obtain ⟨hc, ⟨w0, w1, w2, w3⟩, ht1, ho, hf, ⟨t0, t1, t2, t3⟩⟩ := h
    have o0 := own_oth ht (t := 0) (by omega) (by omega)
    have o2 := own_oth ht (t := 2) (by omega) (by omega)
    have o3 := own_oth ht (t := 3) (by omega) (by omega)
    have oq := own_self (i := i) ht.1
    have b0 := n1_bd a
    have b2 := n1_bd x
    have b3 := n1_bd d
    exact ⟨hc, ⟨w0, trivial, w2, w3⟩, by simp only [n1] at *; omega, .inr heq, by simp only [st1] at *; omega, ⟨tm_other t0 (by simp only [n1]; omega) o0, (.inl rfl), tm_other t2 (by simp only [n1]; omega) o2, tm_other t3 (by simp only [n1]; omega) o3⟩⟩
  · rintro a b d rfl rfl h
    obtain ⟨hc, ⟨w0, w1, w2, w3⟩, ht1, ho, hf, ⟨t0, t1, t2, t3⟩⟩ := h
    have o0 := own_oth ht (t := 0) (by omega) (by omega)
    have o1 := own_oth ht (t := 1) (by omega) (by omega)
    have o3 := own_oth ht (t := 3) (by omega) (by omega)
    have oq := own_self (i := i) ht.1
    have b0 := n1_bd a
    have b1 := n1_bd b
    have b3 := n1_bd d
    exact ⟨hc, ⟨w0, w1, trivial, w3⟩, by simp only [n1] at *; omega, .inr heq, by simp only [st1] at *; omega, ⟨tm_other t0 (by simp only [n1]; omega) o0, tm_other t1 (by simp only [n1]; omega) o1, (.inl rfl), tm_other t3 (by simp only [n1]; omega) o3⟩⟩
  · rintro a b x rfl rfl h
    obtain ⟨hc, ⟨w0, w1, w2, w3⟩, ht1, ho, hf, ⟨t0, t1, t2, t3⟩⟩ := h
    have o0 := own_oth ht (t := 0) (by omega) (by omega)
    have o1 := own_oth ht (t := 1) (by omega) (by omega)
    have o2 := own_oth ht (t := 2) (by omega) (by omega)
    have oq := own_self (i := i) ht.1
    have b0 := n1_bd a
    have b1 := n1_bd b
    have b2 := n1_bd x
    exact ⟨hc, ⟨w0, w1, w2, trivial⟩, by simp only [n1] at *; omega, .inr heq, by simp only [st1] at *; omega, ⟨tm_other t0 (by simp only [n1]; omega) o0, tm_other t1 (by simp only [n1]; omega) o1, tm_other t2 (by simp only [n1]; omega) o2, (.inl rfl)⟩⟩


theorem Inv.letin {k i kn : Nat} {l : List St} {inn out fails : Nat} (h : Inv k i l inn out fails) (ht : Turn4 i kn) (hk : l[kn]? = some (.W (k + inn))) : Inv k (i + 1) (l.set kn .D) (inn + 1) out fails := by
  have hl := h.len
  revert h
  refine four (P := fun l => Inv k i l inn out fails → Inv k (i + 1) (l.set kn .D) (inn + 1) out fails) hl hk ?_ ?_ ?_ ?_
  · rintro b x d rfl rfl h
    obtain ⟨hc, ⟨w0, w1, w2, w3⟩, ht1, ho, hf, ⟨t0, t1, t2, t3⟩⟩ := h
    have o1 := own_oth ht (t := 1) (by omega) (by omega)
    have o2 := own_oth ht (t := 2) (by omega) (by omega)
    have o3 := own_oth ht (t := 3) (by omega) (by omega)
    have oq := own_self (i := i) ht.1
    have b1 := n1_bd b
    have b2 := n1_bd x
    have b3 := n1_bd d
    have hw6 : k + inn ≤ 6 := by have := w0; simp only [okW] at this; omega
    have s1 := st_in w1
    have s2 := st_in w2
    have s3 := st_in w3
    have u1 := tm_in (k := k) (nd := n1 b + n1 x + n1 d) (t := 1) (i := i) (s := b) (c := k + inn) (by unfold tm1 at *; simp only [n1] at t1 ⊢; omega) w1 o1
    have u2 := tm_in (k := k) (nd := n1 b + n1 x + n1 d) (t := 2) (i := i) (s := x) (c := k + inn) (by unfold tm1 at *; simp only [n1] at t2 ⊢; omega) w2 o2
    have u3 := tm_in (k := k) (nd := n1 b + n1 x + n1 d) (t := 3) (i := i) (s := d) (c := k + inn) (by unfold tm1 at *; simp only [n1] at t3 ⊢; omega) w3 o3
    refine ⟨by omega, ⟨trivial, s1.2, s2.2, s3.2⟩, by simp only [n1] at *; omega, ?_, by simp only [st1, n1, if_true] at *; rw [show k + (inn + 1) = k + inn + 1 from rfl]; omega, ⟨(.inl rfl), (by unfold tm1 at u1 ⊢; simp only [n1, Nat.zero_add, Nat.add_zero, ← Nat.add_assoc] at u1 ⊢; omega), (by unfold tm1 at u2 ⊢; simp only [n1, Nat.zero_add, Nat.add_zero, ← Nat.add_assoc] at u2 ⊢; omega), (by unfold tm1 at u3 ⊢; simp only [n1, Nat.zero_add, Nat.add_zero, ← Nat.add_assoc] at u3 ⊢; omega)⟩⟩
    rcases ho with ho | ho
    · exact .inl ho
    · omega
  · rintro a x d rfl rfl h
    obtain ⟨hc, ⟨w0, w1, w2, w3⟩, ht1, ho, hf, ⟨t0, t1, t2, t3⟩⟩ := h
    have o0 := own_oth ht (t := 0) (by omega) (by omega)
    have o2 := own_oth ht (t := 2) (by omega) (by omega)
    have o3 := own_oth ht (t := 3) (by omega) (by omega)
    have oq := own_self (i := i) ht.1
    have b0 := n1_bd a
    have b2 := n1_bd x
    have b3 := n1_bd d
    have hw6 : k + inn ≤ 6 := by have := w1; simp only [okW] at this; omega
    have s0 := st_in w0
    have s2 := st_in w2
    have s3 := st_in w3
    have u0 := tm_in (k := k) (nd := n1 a + n1 x + n1 d) (t := 0) (i := i) (s := a) (c := k + inn) (by unfold tm1 at *; simp only [n1] at t0 ⊢; omega) w0 o0
    have u2 := tm_in (k := k) (nd := n1 a + n1 x + n1 d) (t := 2) (i := i) (s := x) (c := k + inn) (by unfold tm1 at *; simp only [n1] at t2 ⊢; omega) w2 o2
    have u3 := tm_in (k := k) (nd := n1 a + n1 x + n1 d) (t := 3) (i := i) (s := d) (c := k + inn) (by unfold tm1 at *; simp only [n1] at t3 ⊢; omega) w3 o3
    refine ⟨by omega, ⟨s0.2, trivial, s2.2, s3.2⟩, by simp only [n1] at *; omega, ?_, by simp only [st1, n1, if_true] at *; rw [show k + (inn + 1) = k + inn + 1 from rfl]; omega, ⟨(by unfold tm1 at u0 ⊢; simp only [n1, Nat.zero_add, Nat.add_zero, ← Nat.add_assoc] at u0 ⊢; omega), (.inl rfl), (by unfold tm1 at u2 ⊢; simp only [n1, Nat.zero_add, Nat.add_zero, ← Nat.add_assoc] at u2 ⊢; omega), (by unfold tm1 at u3 ⊢; simp only [n1, Nat.zero_add, Nat.add_zero, ← Nat.add_assoc] at u3 ⊢; omega)⟩⟩
    rcases ho with ho | ho
    · exact .inl ho
    · omega
  · rintro a b d rfl rfl h
    obtain ⟨hc, ⟨w0, w1, w2, w3⟩, ht1, ho, hf, ⟨t0, t1, t2, t3⟩⟩ := h
    have o0 := own_oth ht (t := 0) (by omega) (by omega)
    have o1 := own_oth ht (t := 1) (by omega) (by omega)
    have o3 := own_oth ht (t := 3) (by omega) (by omega)
    have oq := own_self (i := i) ht.1
    have b0 := n1_bd a
    have b1 := n1_bd b
    have b3 := n1_bd d
    have hw6 : k + inn ≤ 6 := by have := w2; simp only [okW] at this; omega
    have s0 := st_in w0
    have s1 := st_in w1
    have s3 := st_in w3
    have u0 := tm_in (k := k) (nd := n1 a + n1 b + n1 d) (t := 0) (i := i) (s := a) (c := k + inn) (by unfold tm1 at *; simp only [n1] at t0 ⊢; omega) w0 o0
    have u1 := tm_in (k := k) (nd := n1 a + n1 b + n1 d) (t := 1) (i := i) (s := b) (c := k + inn) (by unfold tm1 at *; simp only [n1] at t1 ⊢; omega) w1 o1
    have u3 := tm_in (k := k) (nd := n1 a + n1 b + n1 d) (t := 3) (i := i) (s := d) (c := k + inn) (by unfold tm1 at *; simp only [n1] at t3 ⊢; omega) w3 o3
    refine ⟨by omega, ⟨s0.2, s1.2, trivial, s3.2⟩, by simp only [n1] at *; omega, ?_, by simp only [st1, n1, if_true] at *; rw [show k + (inn + 1) = k + inn + 1 from rfl]; omega, ⟨(by unfold tm1 at u0 ⊢; simp only [n1, Nat.zero_add, Nat.add_zero, ← Nat.add_assoc] at u0 ⊢; omega), (by unfold tm1 at u1 ⊢; simp only [n1, Nat.zero_add, Nat.add_zero, ← Nat.add_assoc] at u1 ⊢; omega), (.inl rfl), (by unfold tm1 at u3 ⊢; simp only [n1, Nat.zero_add, Nat.add_zero, ← Nat.add_assoc] at u3 ⊢; omega)⟩⟩
    rcases ho with ho | ho
    · exact .inl ho
    · omega
  · rintro a b x rfl rfl h
    obtain ⟨hc, ⟨w0, w1, w2, w3⟩, ht1, ho, hf, ⟨t0, t1, t2, t3⟩⟩ := h
    have o0 := own_oth ht (t := 0) (by omega) (by omega)
    have o1 := own_oth ht (t := 1) (by omega) (by omega)
    have o2 := own_oth ht (t := 2) (by omega) (by omega)
    have oq := own_self (i := i) ht.1
    have b0 := n1_bd a
    have b1 := n1_bd b
    have b2 := n1_bd x
    have hw6 : k + inn ≤ 6 := by have := w3; simp only [okW] at this; omega
    have s0 := st_in w0
    have s1 := st_in w1
    have s2 := st_in w2
    have u0 := tm_in (k := k) (nd := n1 a + n1 b + n1 x) (t := 0) (i := i) (s := a) (c := k + inn) (by unfold tm1 at *; simp only [n1] at t0 ⊢; omega) w0 o0
    have u1 := tm_in (k := k) (nd := n1 a + n1 b + n1 x) (t := 1) (i := i) (s := b) (c := k + inn) (by unfold tm1 at *; simp only [n1] at t1 ⊢; omega) w1 o1
    have u2 := tm_in (k := k) (nd := n1 a + n1 b + n1 x) (t := 2) (i := i) (s := x) (c := k + inn) (by unfold tm1 at *; simp only [n1] at t2 ⊢; omega) w2 o2
    refine ⟨by omega, ⟨s0.2, s1.2, s2.2, trivial⟩, by simp only [n1] at *; omega, ?_, by simp only [st1, n1, if_true] at *; rw [show k + (inn + 1) = k + inn + 1 from rfl]; omega, ⟨(by unfold tm1 at u0 ⊢; simp only [n1, Nat.zero_add, Nat.add_zero, ← Nat.add_assoc] at u0 ⊢; omega), (by unfold tm1 at u1 ⊢; simp only [n1, Nat.zero_add, Nat.add_zero, ← Nat.add_assoc] at u1 ⊢; omega), (by unfold tm1 at u2 ⊢; simp only [n1, Nat.zero_add, Nat.add_zero, ← Nat.add_assoc] at u2 ⊢; omega), (.inl rfl)⟩⟩
    rcases ho with ho | ho
    · exact .inl ho
    · omega


theorem Inv.failed {k i kn : Nat} {l : List St} {inn out fails : Nat} (h : Inv k i l inn out fails) (ht : Turn4 i kn) {v : Nat} (hk : l[kn]? = some (.W v)) (hne : v ≠ k + inn) : Inv k (i + 1) (l.set kn .F) inn out (fails + 1) := by
  have hl := h.len
  revert h
  refine four (P := fun l => Inv k i l inn out fails → Inv k (i + 1) (l.set kn .F) inn out (fails + 1)) hl hk ?_ ?_ ?_ ?_
  · rintro b x d rfl rfl h
    obtain ⟨hc, ⟨w0, w1, w2, w3⟩, ht1, ho, hf, ⟨t0, t1, t2, t3⟩⟩ := h
    have o1 := own_oth ht (t := 1) (by omega) (by omega)
    have o2 := own_oth ht (t := 2) (by omega) (by omega)
    have o3 := own_oth ht (t := 3) (by omega) (by omega)
    have oq := own_self (i := i) ht.1
    have b1 := n1_bd b
    have b2 := n1_bd x
    have b3 := n1_bd d
    exact ⟨hc, ⟨trivial, w1, w2, w3⟩, by simp only [n1] at *; omega, ho, by simp only [st1, if_neg hne] at *; omega, ⟨(by unfold tm1 at *; simp only [n1, pt1, if_neg hne] at *; omega), tm_other t1 (by simp only [n1]; omega) o1, tm_other t2 (by simp only [n1]; omega) o2, tm_other t3 (by simp only [n1]; omega) o3⟩⟩
  · rintro a x d rfl rfl h
    obtain ⟨hc, ⟨w0, w1, w2, w3⟩, ht1, ho, hf, ⟨t0, t1, t2, t3⟩⟩ := h
    have o0 := own_oth ht (t := 0) (by omega) (by omega)
    have o2 := own_oth ht (t := 2) (by omega) (by omega)
    have o3 := own_oth ht (t := 3) (by omega) (by omega)
    have oq := own_self (i := i) ht.1
    have b0 := n1_bd a
    have b2 := n1_bd x
    have b3 := n1_bd d
    exact ⟨hc, ⟨w0, trivial, w2, w3⟩, by simp only [n1] at *; omega, ho, by simp only [st1, if_neg hne] at *; omega, ⟨tm_other t0 (by simp only [n1]; omega) o0, (by unfold tm1 at *; simp only [n1, pt1, if_neg hne] at *; omega), tm_other t2 (by simp only [n1]; omega) o2, tm_other t3 (by simp only [n1]; omega) o3⟩⟩
  · rintro a b d rfl rfl h
    obtain ⟨hc, ⟨w0, w1, w2, w3⟩, ht1, ho, hf, ⟨t0, t1, t2, t3⟩⟩ := h
    have o0 := own_oth ht (t := 0) (by omega) (by omega)
    have o1 := own_oth ht (t := 1) (by omega) (by omega)
    have o3 := own_oth ht (t := 3) (by omega) (by omega)
    have oq := own_self (i := i) ht.1
    have b0 := n1_bd a
    have b1 := n1_bd b
    have b3 := n1_bd d
    exact ⟨hc, ⟨w0, w1, trivial, w3⟩, by simp only [n1] at *; omega, ho, by simp only [st1, if_neg hne] at *; omega, ⟨tm_other t0 (by simp only [n1]; omega) o0, tm_other t1 (by simp only [n1]; omega) o1, (by unfold tm1 at *; simp only [n1, pt1, if_neg hne] at *; omega), tm_other t3 (by simp only [n1]; omega) o3⟩⟩
  · rintro a b x rfl rfl h
    obtain ⟨hc, ⟨w0, w1, w2, w3⟩, ht1, ho, hf, ⟨t0, t1, t2, t3⟩⟩ := h
    have o0 := own_oth ht (t := 0) (by omega) (by omega)
    have o1 := own_oth ht (t := 1) (by omega) (by omega)
    have o2 := own_oth ht (t := 2) (by omega) (by omega)
    have oq := own_self (i := i) ht.1
    have b0 := n1_bd a
    have b1 := n1_bd b
    have b2 := n1_bd x
    exact ⟨hc, ⟨w0, w1, w2, trivial⟩, by simp only [n1] at *; omega, ho, by simp only [st1, if_neg hne] at *; omega, ⟨tm_other t0 (by simp only [n1]; omega) o0, tm_other t1 (by simp only [n1]; omega) o1, tm_other t2 (by simp only [n1]; omega) o2, (by unfold tm1 at *; simp only [n1, pt1, if_neg hne] at *; omega)⟩⟩


theorem Inv.skip {k i kn : Nat} {l : List St} {inn out fails : Nat} (h : Inv k i l inn out fails) (ht : Turn4 i kn) (hk : l[kn]? = some .D) : Inv k (i + 1) l inn out fails := by
  have hl := h.len
  revert h
  refine four (P := fun l => Inv k i l inn out fails → Inv k (i + 1) l inn out fails) hl hk ?_ ?_ ?_ ?_
  · rintro b x d rfl rfl h
    obtain ⟨hc, ⟨w0, w1, w2, w3⟩, ht1, ho, hf, ⟨t0, t1, t2, t3⟩⟩ := h
    have o1 := own_oth ht (t := 1) (by omega) (by omega)
    have o2 := own_oth ht (t := 2) (by omega) (by omega)
    have o3 := own_oth ht (t := 3) (by omega) (by omega)
    have oq := own_self (i := i) ht.1
    have b1 := n1_bd b
    have b2 := n1_bd x
    have b3 := n1_bd d
    exact ⟨hc, ⟨w0, w1, w2, w3⟩, ht1, ho, hf, ⟨(.inl rfl), tm_other t1 (by simp only [n1]; omega) o1, tm_other t2 (by simp only [n1]; omega) o2, tm_other t3 (by simp only [n1]; omega) o3⟩⟩
  · rintro a x d rfl rfl h
    obtain ⟨hc, ⟨w0, w1, w2, w3⟩, ht1, ho, hf, ⟨t0, t1, t2, t3⟩⟩ := h
    have o0 := own_oth ht (t := 0) (by omega) (by omega)
    have o2 := own_oth ht (t := 2) (by omega) (by omega)
    have o3 := own_oth ht (t := 3) (by omega) (by omega)
    have oq := own_self (i := i) ht.1
    have b0 := n1_bd a
    have b2 := n1_bd x
    have b3 := n1_bd d
    exact ⟨hc, ⟨w0, w1, w2, w3⟩, ht1, ho, hf, ⟨tm_other t0 (by simp only [n1]; omega) o0, (.inl rfl), tm_other t2 (by simp only [n1]; omega) o2, tm_other t3 (by simp only [n1]; omega) o3⟩⟩
  · rintro a b d rfl rfl h
    obtain ⟨hc, ⟨w0, w1, w2, w3⟩, ht1, ho, hf, ⟨t0, t1, t2, t3⟩⟩ := h
    have o0 := own_oth ht (t := 0) (by omega) (by omega)
    have o1 := own_oth ht (t := 1) (by omega) (by omega)
    have o3 := own_oth ht (t := 3) (by omega) (by omega)
    have oq := own_self (i := i) ht.1
    have b0 := n1_bd a
    have b1 := n1_bd b
    have b3 := n1_bd d
    exact ⟨hc, ⟨w0, w1, w2, w3⟩, ht1, ho, hf, ⟨tm_other t0 (by simp only [n1]; omega) o0, tm_other t1 (by simp only [n1]; omega) o1, (.inl rfl), tm_other t3 (by simp only [n1]; omega) o3⟩⟩
  · rintro a b x rfl rfl h
    obtain ⟨hc, ⟨w0, w1, w2, w3⟩, ht1, ho, hf, ⟨t0, t1, t2, t3⟩⟩ := h
    have o0 := own_oth ht (t := 0) (by omega) (by omega)
    have o1 := own_oth ht (t := 1) (by omega) (by omega)
    have o2 := own_oth ht (t := 2) (by omega) (by omega)
    have oq := own_self (i := i) ht.1
    have b0 := n1_bd a
    have b1 := n1_bd b
    have b2 := n1_bd x
    exact ⟨hc, ⟨w0, w1, w2, w3⟩, ht1, ho, hf, ⟨tm_other t0 (by simp only [n1]; omega) o0, tm_other t1 (by simp only [n1]; omega) o1, tm_other t2 (by simp only [n1]; omega) o2, (.inl rfl)⟩⟩


theorem Inv.done {k : Nat} {l : List St} {inn out fails : Nat} (h : Inv k 70 l inn out fails) : inn + out = 4 ∧ k + inn ≤ 7 ∧ (out = 0 ∨ k + inn = 7) ∧ fails ≤ 3 * inn := by
  have hl := h.len
  match l, hl with
  | [a, b, x, d], _ =>
    obtain ⟨hc, _, ht1, ho, hf, ⟨t0, t1, t2, t3⟩⟩ := h
    have z : ∀ (nd c t : Nat) (s : St), t < 4 → n1 s ≤ nd → tm1 nd c t 70 s → n1 s = 0 := by
      intro nd c t s ht hn hh
      rcases hh with hh | hh
      · exact hh
      · have hown : own t 70 = 10 := by
          obtain rfl | rfl | rfl | rfl : t = 0 ∨ t = 1 ∨ t = 2 ∨ t = 3 := by omega
          all_goals rfl
        rw [hown] at hh
        cases s with
        | F => simp only [pt1] at hh; omega
        | D => rfl
        | W v => simp only [pt1, n1] at hh hn; omega
    have z0 := z _ _ 0 a (by omega) (by omega) t0
    have z1 := z _ _ 1 b (by omega) (by omega) t1
    have z2 := z _ _ 2 x (by omega) (by omega) t2
    have z3 := z _ _ 3 d (by omega) (by omega) t3
    exact ⟨by omega, hc, ho, by omega⟩
/-- a scope that v are within -/
def cwC (v : Nat) : Ctl := if v = 0 then ⟨1, 0, -1, 3⟩ else ⟨2, v, 0, 3⟩
def cw (v : Nat) : Int := word (cwC v)
theorem cwC_right {v : Nat} (h : v ≤ 7) : Right (cwC v) := by
  unfold cwC
  split
  · decide
  · refine ⟨by simp, by simp, .inr (.inl ⟨rfl, by simp; omega, by simp; omega, by simp, by simp⟩)⟩
theorem cw_inj {u v : Nat} (hu : u ≤ 7) (hv : v ≤ 7) (h : cw u = cw v) : u = v := by
  have e : cwC u = cwC v := by rw [← (right_word (cwC_right hu)).2.2, ← (right_word (cwC_right hv)).2.2]; exact congrArg told h
  unfold cwC at e
  split at e
  · split at e
    · omega
    · injection e with e1; cases e1
  · split at e
    · injection e with e1; cases e1
    · injection e with _ e2; omega
theorem cw_enter {v : Nat} (h : v < 7) : enter (cwC v) 0 = (cwC (v + 1), 0) := by
  by_cases h0 : v = 0
  · subst h0
    rw [show cwC 0 = ⟨1, 0, -1, 3⟩ from rfl, show cwC (0 + 1) = ⟨2, 1, 0, 3⟩ from rfl, enter_ok (by decide) (by decide)]
    rfl
  · have e1 : cwC v = ⟨2, v, 0, 3⟩ := if_neg h0
    have e2 : cwC (v + 1) = ⟨2, ((v + 1 : Nat) : Int), 0, 3⟩ := if_neg (by omega)
    have hr : Right ⟨2, (v : Int), 0, 3⟩ := by rw [← e1]; exact cwC_right (by omega)
    rw [e1, e2, enter_ok hr (by decide), if_neg (by decide), if_neg (by decide), if_neg (by decide), if_neg (by decide), if_neg (by omega)]
    simp
theorem cw_full : enter (cwC 7) 0 = (noCtl, 16) := by
  rw [show cwC 7 = ⟨2, 7, 0, 3⟩ from rfl, enter_ok (by decide) (by decide)]; rfl
/-- what a run is, as an abstract state -/
def CorR (r : Rn) : St → Prop
  | .F => ∃ cA kc, r = callRn 1 0 ⟨cA, 1, kc⟩
  | .W v => ∃ cA kc, r = wayR 1 0 ⟨cA, 1, kc⟩ (cw v) (cw (v + 1))
  | .D => r.done = true
def Cor (l : List Rn) (σ : List St) : Prop := l.length = 4 ∧ ∀ (t : Nat) r s, l[t]? = some r → σ[t]? = some s → CorR r s
theorem Cor.set {l : List Rn} {σ : List St} (h : Cor l σ) (k : Nat) {r : Rn} {s : St} (hr : CorR r s) : Cor (l.set k r) (σ.set k s) := by
  refine ⟨by simpa using h.1, fun t r' s' h1 h2 => ?_⟩
  rw [List.getElem?_set] at h1 h2
  split at h1
  · rename_i e
    rw [if_pos e] at h2
    split at h1
    · split at h2
      · cases h1; cases h2; exact hr
      · cases h2
    · cases h1
  · rename_i e
    rw [if_neg e] at h2
    exact h.2 t r' s' h1 h2
theorem way_of_cor {k c : Nat} {r : Rn} {s : St} (h : CorR r s) (hw : okW k c s) (hd : s ≠ .D) : ∃ cA kc, Way r 1 0 ⟨cA, 1, kc⟩ := by
  cases s with
  | F => obtain ⟨cA, kc, h⟩ := h; exact ⟨cA, kc, .inl h⟩
  | W v =>
    obtain ⟨cA, kc, h⟩ := h
    simp only [okW] at hw
    exact ⟨cA, kc, .inr ⟨_, _, cwC_right (by omega : v + 1 ≤ 7), h⟩⟩
  | D => exact absurd rfl hd
theorem Inv.okw {k i : Nat} {σ : List St} {a b c : Nat} (h : Inv k i σ a b c) {t : Nat} {s : St} (hs : σ[t]? = some s) : okW k (k + a) s ∧ k + a ≤ 7 := by
  have hl := h.len
  match σ, hl with
  | [x0, x1, x2, x3], _ =>
    obtain ⟨hc, ⟨w0, w1, w2, w3⟩, _⟩ := h
    match t, hs with
    | 0, hs => simp at hs; subst hs; exact ⟨w0, hc⟩
    | 1, hs => simp at hs; subst hs; exact ⟨w1, hc⟩
    | 2, hs => simp at hs; subst hs; exact ⟨w2, hc⟩
    | 3, hs => simp at hs; subst hs; exact ⟨w3, hc⟩

theorem Inv.bd {k i : Nat} {σ : List St} {a b c : Nat} (h : Inv k i σ a b c) : a ≤ 4 ∧ b ≤ 4 ∧ c ≤ 12 := by
  have hl := h.len
  match σ, hl with
  | [x0, x1, x2, x3], _ =>
    obtain ⟨_, _, ht, _, hf, _⟩ := h
    omega


end Go.Proofs.Ytconieenkeajiaa
