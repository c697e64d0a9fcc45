/- What scopes are, in plain terms: of each what its control word tells and its extent; what is free; what becomes of them. -/
import Derived.Test.YtcicpfhbpcdjcaaGroundPlainC
import Derived.Test.YtcicpfhbpcdjcaaCtlPlain
namespace Go.Proofs.Ytcicpfhbpcdjcaa
open Go.RowKit

structure Sc where
  c : Ctl
  x : Ext
abbrev scCells (s : Sc) : List Value := [.int .i64 s.c.st, .int .i64 s.c.n, .int .i64 s.c.p, .int .i64 s.c.ep, .int .i64 s.x.1, .int .i64 s.x.2]
theorem scCells_length (s : Sc) : (scCells s).length = 6 := rfl
theorem scs_len (l : List Sc) : (l.flatMap scCells).length = l.length * 6 := flat_length scCells 6 scCells_length l

/-- all scopes, and what is free -/
structure Sco where
  l : List Sc
  F : List Ext

def up8 (n : Int) : Int := (n + 7) / 8 * 8
def freeAt (l : List Sc) : Option Nat := l.findIdx? fun s => s.c.st == 0
def inS (i lo : Int) (S : Sco) : Bool := inB i lo ((S.l.length : Int) - 1)

def createS (n : Int) (S : Sco) : (Int × Int) × Sco :=
  if inB n 1 8192 = false then ((0, 1), S) else match freeAt S.l with
    | none => ((0, 13), S)
    | some i => match S.l[i]? with
      | none => ((0, 13), S)
      | some s => if (carveF (up8 n) S.F).2.1 = true then (((i : Nat), 0), ⟨S.l.set i ⟨⟨1, s.c.n, s.c.p, s.c.ep⟩, ((carveF (up8 n) S.F).1, up8 n)⟩, (carveF (up8 n) S.F).2.2⟩) else ((0, 14), S)
def destroyS (f e : Int) (i : Int) (S : Sco) : Int × Sco :=
  if inS i 1 S = false then (11, S) else match S.l[i.toNat]? with
    | none => (11, S)
    | some s => if s.c.st = 0 then (11, S) else if s.c.st = 1 then (0, ⟨S.l.set i.toNat ⟨⟨0, 0, -1, (s.c.ep + 1) % 16777216⟩, (0, 0)⟩, (giveF f e s.x.1 s.x.2 S.F).2⟩) else (12, S)
def changeS (h : Ctl → Ctl × Int) (i : Int) (S : Sco) : Int × Sco :=
  if inS i 1 S = false then (11, S) else match S.l[i.toNat]? with
    | none => (11, S)
    | some s => if (h s.c).2 = 0 then (0, ⟨S.l.set i.toNat ⟨(h s.c).1, s.x⟩, S.F⟩) else ((h s.c).2, S)
def enterS (i k : Int) (S : Sco) : Int × Sco := changeS (fun c => enter c k) i S
def leaveS (i : Int) (S : Sco) : Int × Sco := changeS leave i S
/-- whether the one that was left is drained -/
def lastS (i : Int) (S : Sco) : Bool := if (leaveS i S).1 = 0 then (match (leaveS i S).2.l[i.toNat]? with | none => false | some s => s.c.st == 3) else false
def openS (i : Int) (S : Sco) : Int × Sco := changeS openC i S
def holdS (i : Int) (S : Sco) : Int × Sco := changeS hold i S
def ctlS (i : Int) (S : Sco) : Ctl × Int := if inS i 0 S = false then (noCtl, 11) else match S.l[i.toNat]? with | none => (noCtl, 11) | some s => (s.c, 0)
def extS (i : Int) (S : Sco) : Ext × Int := if inS i 0 S = false then ((0, 0), 11) else match S.l[i.toNat]? with | none => ((0, 0), 11) | some s => (s.x, 0)

/-- what all scopes are -/
structure ScOk (s : Sc) : Prop where
  r : Right s.c
  x0 : 0 ≤ s.x.1
  x1 : s.x.1 ≤ 131072
structure Fine (f e : Int) (S : Sco) : Prop where
  ok : ∀ s ∈ S.l, ScOk s
  n1 : 1 ≤ S.l.length
  n8 : S.l.length ≤ 8
  can : Canon f e S.F
  f0 : 0 ≤ f
  fe : f ≤ e
  e1 : e ≤ 131072

theorem enter_right {c : Ctl} {k : Int} (h : (enter c k).2 = 0) : Right (enter c k).1 := by
  unfold enter at h ⊢
  split at h
  · cases h
  · rename_i h1
    rw [if_neg h1]
    simp only [Classical.not_not] at h1
    obtain ⟨⟨r1, r2, r3⟩, k0, k7⟩ := h1
    split at h
    · cases h
    · rename_i h2
      rw [if_neg h2]
      split at h
      · cases h
      · rename_i h3
        rw [if_neg h3]
        split at h
        · rename_i h4
          rw [if_pos h4]
          exact ⟨r1, r2, .inr (.inl ⟨rfl, Int.le_refl _, show (1 : Int) ≤ 7 by decide, Int.le_trans (by decide) k0, k7⟩)⟩
        · rename_i h4
          rw [if_neg h4]
          split at h
          · cases h
          · rename_i h5
            rw [if_neg h5]
            split at h
            · cases h
            · rename_i h6
              rw [if_neg h6]
              exact ⟨r1, r2, by simp only; omega⟩
theorem ofState_zero {c : Ctl} {st : Int} (h : ¬ ofState c st ≠ 0) : Right c ∧ c.st = st := by
  simp only [ne_eq, Classical.not_not] at h
  unfold ofState at h
  split at h
  · cases h
  · rename_i h1
    simp only [Classical.not_not] at h1
    split at h
    · cases h
    · rename_i h2
      simp only [ne_eq, Classical.not_not] at h2
      exact ⟨h1, h2⟩
theorem leave_right {c : Ctl} (h : (leave c).2 = 0) : Right (leave c).1 := by
  unfold leave at h ⊢
  split at h
  · rename_i h1; exact absurd h h1
  · rename_i h1
    rw [if_neg h1]
    obtain ⟨⟨r1, r2, r3⟩, h2⟩ := ofState_zero h1
    refine ⟨r1, r2, ?_⟩
    simp only
    split <;> omega
theorem open_right {c : Ctl} (h : (openC c).2 = 0) : Right (openC c).1 := by
  unfold openC at h ⊢
  split at h
  · rename_i h1; exact absurd h h1
  · rename_i h1
    rw [if_neg h1]
    exact ⟨Int.emod_nonneg _ (by decide), by show (c.ep + 1) % 16777216 ≤ 16777215; omega, .inl ⟨.inr rfl, rfl, rfl⟩⟩
theorem hold_right {c : Ctl} (h : (hold c).2 = 0) : Right (hold c).1 := by
  unfold hold at h ⊢
  split at h
  · rename_i h1; exact absurd h h1
  · rename_i h1
    rw [if_neg h1]
    obtain ⟨⟨r1, r2, r3⟩, h2⟩ := ofState_zero h1
    exact ⟨r1, r2, .inr (.inl ⟨rfl, Int.le_refl _, show (1 : Int) ≤ 7 by decide, show -1 ≤ c.p by omega, show c.p ≤ 7 by omega⟩)⟩

theorem mem_set_or {α : Type} {l : List α} {i : Nat} {a b : α} (h : b ∈ l.set i a) : b = a ∨ b ∈ l := by
  obtain ⟨j, hj⟩ := List.mem_iff_getElem?.1 h
  rw [List.getElem?_set] at hj
  split at hj
  · split at hj
    · injection hj with hj; exact .inl hj.symm
    · cases hj
  · exact .inr (List.mem_of_getElem? hj)

theorem changeS_fine {f e : Int} {S : Sco} {h : Ctl → Ctl × Int} (hh : ∀ c, (h c).2 = 0 → Right (h c).1) (i : Int) (k : Fine f e S) : Fine f e (changeS h i S).2 := by
  unfold changeS
  split
  · exact k
  · split
    · exact k
    · rename_i s hs
      split
      · rename_i h0
        have h1 := k.ok s (List.mem_of_getElem? hs)
        exact { k with
          ok := fun t ht => by
            rcases mem_set_or ht with rfl | ht
            · exact ⟨hh _ h0, h1.x0, h1.x1⟩
            · exact k.ok t ht
          n1 := by rw [List.length_set]; exact k.n1
          n8 := by rw [List.length_set]; exact k.n8 }
      · exact k

theorem createS_len (n : Int) (S : Sco) : (createS n S).2.l.length = S.l.length := by
  unfold createS
  split
  · rfl
  · split
    · rfl
    · split
      · rfl
      · split
        · rw [List.length_set]
        · rfl
theorem destroyS_len (f e i : Int) (S : Sco) : (destroyS f e i S).2.l.length = S.l.length := by
  unfold destroyS
  split
  · rfl
  · split
    · rfl
    · split
      · rfl
      · split
        · rw [List.length_set]
        · rfl
theorem changeS_len (h : Ctl → Ctl × Int) (i : Int) (S : Sco) : (changeS h i S).2.l.length = S.l.length := by
  unfold changeS
  split
  · rfl
  · split
    · rfl
    · split
      · rw [List.length_set]
      · rfl

end Go.Proofs.Ytcicpfhbpcdjcaa
