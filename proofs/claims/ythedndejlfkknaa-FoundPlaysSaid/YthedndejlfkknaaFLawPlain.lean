/- Layer 14: what its laws say of a step, in plain terms. -/
import Derived.Test.YthedndejlfkknaaFOpen
namespace Go.Proofs.Ythedndejlfkknaa
open Go.RowKit
set_option linter.unusedVariables false
set_option linter.unusedSimpArgs false

theorem cell_setRow {w : World} {g : Nat} {cs : Array Value} {p : Addr} (h : p.block ≠ g) : (w.setRow g cs).cell? p = w.cell? p := by
  have := (Keep.refl [g] w).setRow (g := g) (.inl (by simp)) cs
  unfold World.cell?
  rw [setRow_other w g p.block cs h]
theorem words14_len (mk : Bool) (n : Int) (S : Sco) (ws : List Int) : (words14 mk n S ws).length = ws.length := by
  unfold words14
  cases mk with
  | true => exact createW_len _ _ _
  | false =>
    simp only [Bool.false_eq_true, if_false]
    split
    · exact destroyW_len _ _ _
    · rfl
theorem not_done14 {f e s : Int} {mk : Bool} {n : Int} {S : Sco} {ws : List Int} {ch : Sl} (h : done14 mk n S = false) (hs : (S.l.length : Int) = s) : does14 f e mk n S = S ∧ words14 mk n S ws = ws ∧ (run14 f e s mk n S ch).pc = 0 := by
  unfold done14 at h
  cases mk with
  | true => cases h
  | false =>
    have hin : inS (begA false n) 1 S = false := h
    unfold does14 words14 run14
    rw [if_neg (by simp), if_neg (by simp), if_neg (by rw [hin]; simp), if_neg (by simp), if_neg (by rw [hin]; simp), destroyS_out hin]
    refine ⟨rfl, rfl, ?_⟩
    rw [begR_none (by unfold inS begA at hin; rw [hs] at hin; exact hin)]
/-- a call that is done: what it is, told; which scope; with what code -/
theorem done14_run {f e s : Int} {mk : Bool} {n : Int} {S : Sco} {ch : Sl} (h : done14 mk n S = true) (hs : (S.l.length : Int) = s) :
    (run14 f e s mk n S ch).pc = 1 ∧ (run14 f e s mk n S ch).done = true ∧ (run14 f e s mk n S ch).point = true ∧ (run14 f e s mk n S ch).c.a = begA mk n ∧ (run14 f e s mk n S ch).c.op = (if mk then 2 else 3) ∧
    (run14 f e s mk n S ch).code = (if mk then (createS (begA mk n) S).1.2 else (destroyS f e (begA mk n) S).1) ∧ (run14 f e s mk n S ch).an = (if mk then (createS (begA mk n) S).1.1 else 0) := by
  unfold done14 at h
  unfold run14
  cases mk with
  | true => simp only [if_true]; rw [begR_make]; exact ⟨rfl, rfl, rfl, by simp [toldR, begA], rfl, rfl, rfl⟩
  | false =>
    have hin : inS (begA false n) 1 S = true := h
    simp only [Bool.false_eq_true, if_false]
    rw [if_pos hin, begR_gone (by unfold inS begA at hin; rw [hs] at hin; exact hin)]
    exact ⟨rfl, rfl, rfl, by simp [toldR, begA], rfl, rfl, rfl⟩
/-- what a step changes -/
theorem touch14 {f e s : Int} {mk : Bool} {n : Int} {S : Sco} {ws : List Int} (hd : done14 mk n S = true) {j : Nat} {x y : Int} (hx : ws[j]? = some x) (hy : (words14 mk n S ws)[j]? = some y) :
    x = y ∨ (¬ x = y ∧ (if mk then (createS (begA mk n) S).1.2 else (destroyS f e (begA mk n) S).1) = 0 ∧ ((j / 8 : Nat) : Int) = (if mk then (createS (begA mk n) S).1.1 else begA mk n)) := by
  by_cases h : x = y
  · exact .inl h
  · refine .inr ⟨h, ?_⟩
    unfold done14 at hd
    unfold words14 at hy
    cases mk with
    | true =>
      simp only [if_true] at hy ⊢
      have hj : ¬ ((createS (begA true n) S).1.2 = 0 → ((j / 8 : Nat) : Int) ≠ (createS (begA true n) S).1.1) := fun h9 => h (by rw [createW_other h9, hx] at hy; injection hy)
      by_cases h0 : (createS (begA true n) S).1.2 = 0
      · exact ⟨h0, Classical.byContradiction fun h8 => hj fun _ => h8⟩
      · exact absurd (fun h9 => absurd h9 h0) hj
    | false =>
      have hin : inS (begA false n) 1 S = true := hd
      simp only [Bool.false_eq_true, if_false] at hy ⊢
      rw [if_pos hin] at hy
      obtain ⟨k, hk, _⟩ := begA_nat false n
      constructor
      · refine Classical.byContradiction fun h0 => h ?_
        rw [destroyW_refused hin h0, hx] at hy
        injection hy
      · refine Classical.byContradiction fun h8 => h ?_
        rw [destroyW_other (by rw [hk, Int.toNat_natCast]; rw [hk] at h8; omega), hx] at hy
        injection hy
theorem free14 {f e : Int} {mk : Bool} {n : Int} {S : Sco} (h : (if mk then (createS (begA mk n) S).1.2 else (destroyS f e (begA mk n) S).1) ≠ 0) : (does14 f e mk n S).F = S.F := by
  unfold does14
  cases mk with
  | true => simp only [if_true] at h ⊢; rw [createS_refused h]
  | false => simp only [Bool.false_eq_true, if_false] at h ⊢; rw [destroyS_refused h]


end Go.Proofs.Ythedndejlfkknaa
