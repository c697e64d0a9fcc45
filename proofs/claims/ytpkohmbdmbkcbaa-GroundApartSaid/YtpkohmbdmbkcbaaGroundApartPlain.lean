/- GroundApart in plain terms. No program in sight. -/
import Derived.Test.YtpkohmbdmbkcbaaGroundRefPlain
namespace Go.Proofs.Ytpkohmbdmbkcbaa
open Go.RowKit

def cntF : List Bool → Int
  | [] => 0
  | b :: r => (if b then 0 else 1) + cntF r
theorem cntF_set {u : List Bool} {j : Nat} (h : u[j]? = some false) : cntF (u.set j true) = cntF u - 1 := by
  induction u generalizing j with
  | nil => simp at h
  | cons b r ih =>
    cases j with
    | zero =>
      simp at h
      subst h
      simp [cntF]
      omega
    | succ j =>
      have := ih (by simpa using h)
      rw [List.set_cons_succ, cntF, cntF, this]
      omega
theorem cntF_setB {u : List Bool} {i m : Nat} (hm : i + m ≤ u.length) (h : ∀ j, i ≤ j → j < i + m → u[j]? = some false) : cntF (setB u i true m) = cntF u - m := by
  induction m with
  | zero => simp [setB]
  | succ m ih =>
    rw [setB, cntF_set, ih (by omega) (fun j h1 h2 => h j h1 (by omega))]
    · omega
    · rw [setB_get _ _ _ _ _ (by omega), if_neg (by omega)]
      exact h _ (by omega) (by omega)
theorem cntF_replicate (m : Nat) : cntF (List.replicate m false) = m := by
  induction m with
  | zero => rfl
  | succ m ih => rw [List.replicate_succ, cntF, ih]; simp; omega
theorem cntF_take {u : List Bool} {k : Nat} {b : Bool} (h : u[k]? = some b) : cntF (u.take (k + 1)) = cntF (u.take k) + (if b then 0 else 1) := by
  induction u generalizing k with
  | nil => simp at h
  | cons c r ih =>
    cases k with
    | zero =>
      simp at h
      subst h
      simp [cntF]
    | succ k =>
      have := ih (k := k) (by simpa using h)
      rw [List.take_succ_cons, List.take_succ_cons, cntF, cntF, this]
      omega
theorem cntF_bound (u : List Bool) : 0 ≤ cntF u ∧ cntF u ≤ u.length := by
  induction u with
  | nil => simp [cntF]
  | cons b r ih =>
    rw [cntF, List.length_cons]
    cases b <;> simp <;> omega

theorem total_upto {l : List Ext} {k : Nat} {x : Ext} (h : l[k]? = some x) : total (l.take (k + 1)) = total (l.take k) + x.2 := by
  obtain ⟨hk, rfl⟩ := List.getElem?_eq_some_iff.1 h
  rw [List.take_succ_eq_append_getElem hk, total_append]
  simp [total]

structure Apart (lg H : List Ext) (u : List Bool) : Prop where
  can : Canon 80 480 lg
  held : Held 80 480 lg H
  whole : ∀ j, 80 ≤ j → j < 480 → cov lg j ∨ cov H j
  ulen : u.length = 50
  used : ∀ j, wcov 80 u j ↔ cov H j
  cnt : 8 * cntF u = total lg

theorem apart_init : Apart [(80, 400)] [] (List.replicate 50 false) := by
  refine ⟨⟨by simp, by simp, by simp, by simp, by simp, trivial⟩, Held.nil _ _ _, fun j h1 h2 => .inl ⟨(80, 400), by simp, h1, by simp; omega⟩, by simp, fun j => ?_, by rw [cntF_replicate]; rfl⟩
  constructor
  · rintro ⟨i, hi, _⟩
    rw [List.getElem?_replicate] at hi
    split at hi
    · cases hi
    · cases hi
  · exact fun h => absurd h (cov_nil j)

theorem apart_step {lg H : List Ext} {u : List Bool} {n : Int} (h : Apart lg H u) (hc : (carveF n lg).2.1 = true) :
    ∃ i m : Nat, (carveF n lg).1 = 80 + 8 * (i : Int) ∧ n = 8 * (m : Int) ∧ i + m ≤ 50 ∧ (∀ j, i ≤ j → j < i + m → u[j]? = some false) ∧ Apart (carveF n lg).2.2 (H ++ [((carveF n lg).1, n)]) (setB u i true m) := by
  obtain ⟨n1, n8, h3, h4, h5, h6, h7⟩ := carve_got h.can hc
  obtain ⟨g1, g2, g3, g4, g5⟩ := h4
  simp only at g1 g2 g3 g4 g5
  have hul := h.ulen
  obtain ⟨i, hi⟩ : ∃ i : Nat, (carveF n lg).1 = 80 + 8 * (i : Int) := ⟨(((carveF n lg).1 - 80) / 8).toNat, by omega⟩
  obtain ⟨m, hm⟩ : ∃ m : Nat, n = 8 * (m : Int) := ⟨(n / 8).toNat, by omega⟩
  have him : i + m ≤ 50 := by omega
  have hfree : ∀ j, i ≤ j → j < i + m → u[j]? = some false := by
    intro j j1 j2
    cases hv : u[j]? with
    | none => simp at hv; omega
    | some v =>
      cases v with
      | false => rfl
      | true =>
        exfalso
        obtain ⟨x, hx, k1, k2⟩ := (h.used (80 + 8 * (j : Int))).1 ⟨j, hv, by omega, by omega⟩
        exact h.held.free x hx _ k1 k2 ((h6 _).2 (.inr ⟨by omega, by omega⟩))
  refine ⟨i, m, hi, hm, him, hfree, h3, h.held.more h.can hc, fun j j1 j2 => ?_, by rw [setB_len]; exact hul, fun j => ?_, ?_⟩
  · rcases h.whole j j1 j2 with hj | hj
    · rcases (h6 j).1 hj with hj | hj
      · exact .inl hj
      · exact .inr ((cov_append _ _ _).2 (.inr ((cov_cons _ _ _).2 (.inl hj))))
    · exact .inr ((cov_append _ _ _).2 (.inl hj))
  · rw [wcov_set (by omega) hi hm (by omega), cov_append, cov_cons, h.used]
    simp only [cov_nil, or_false]
    split
    · rename_i hj
      simp [hj]
    · rename_i hj
      simp [hj]
  · rw [cntF_setB (by omega) hfree, h5, ← h.cnt]
    omega
theorem apart_none {lg : List Ext} {n : Int} (hc : (carveF n lg).2.1 = false) (h0 : 1 ≤ n) (h8 : n % 8 = 0) : ∀ (k : Nat) (x : Ext), lg[k]? = some x → x.2 < n := by
  intro k x hx
  unfold carveF at hc
  rw [if_neg (by rw [carveBad_no.2 ⟨h0, h8⟩]; simp)] at hc
  cases hi : carveAt n lg with
  | none =>
    have := findIdx_none hi x (List.mem_of_getElem? hx)
    simp at this
    omega
  | some i =>
    obtain ⟨y, hy, _⟩ := findIdx_some hi
    rw [hi] at hc
    simp only [hy] at hc
    cases hc
/-- all is given back: one extent -/
theorem apart_all {lg H L : List Ext} {u : List Bool} {s : Nat → Nat} (h : Apart lg H u) (hs : ∀ k, k < H.length → ∃ i, i < H.length ∧ s i = k) (hg : Given 80 480 lg H s H.length L) : L = [(80, 400)] := by
  refine hg.can.unique (m := [(80, 400)]) (lo' := 80) ⟨by simp, by simp, by simp, by simp, by simp, trivial⟩ fun j => ?_
  rw [cov_cons]
  simp only [cov_nil, or_false]
  constructor
  · intro hc
    have := hg.can.low hc
    omega
  · intro hj
    rw [hg.cov]
    rcases h.whole j (by omega) (by omega) with hc | ⟨x, hx, k1, k2⟩
    · exact .inl hc
    · obtain ⟨k, hk, rfl⟩ := List.getElem_of_mem hx
      obtain ⟨i, hi, e⟩ := hs k hk
      exact .inr ⟨i, _, hi, by rw [e]; exact List.getElem?_eq_getElem hk, k1, k2⟩

end Go.Proofs.Ytpkohmbdmbkcbaa
