/- What scopes are, in plain terms: of each what its control word tells and its extent; what is free; what becomes of them. Scopes made and unmade, in plain terms. ScopesApart in plain terms: the extents of scopes that are made are apart, and with what is free all of the heap. No program in sight. -/
import Derived.Test.YtnimaajnlkbdaaaGreatMH
import Derived.Test.YtnimaajnlkbdaaaGreatMA
import Derived.Test.YtnimaajnlkbdaaaGreatNum
namespace Go.Proofs.YtnimaajnlkbdaaaGreat
open Go.RowKit

structure Sc where
  c : Ctl
  x : Ext
abbrev scCells (s : Sc) : List Value := [.int .i64 s.c.st, .int .i64 s.c.n, .int .i64 s.c.p, .int .i64 s.c.ep, .int .i64 s.x.1, .int .i64 s.x.2]
theorem scCells_length (s : Sc) : (scCells s).length = 6 := rfl
theorem scs_len (l : List Sc) : (l.flatMap scCells).length = l.length * 6 := flat_length scCells 6 scCells_length l

/-- all scopes, and what is free -/
structure Sco where
  l : List Sc
  F : List Ext

def up8 (n : Int) : Int := (n + 7) / 8 * 8
def freeAt (l : List Sc) : Option Nat := l.findIdx? fun s => s.c.st == 0
def inS (i lo : Int) (S : Sco) : Bool := inB i lo ((S.l.length : Int) - 1)

def createS (n : Int) (S : Sco) : (Int × Int) × Sco :=
  if inB n 1 8192 = false then ((0, 1), S) else match freeAt S.l with
    | none => ((0, 13), S)
    | some i => match S.l[i]? with
      | none => ((0, 13), S)
      | some s => if (carveF (up8 n) S.F).2.1 = true then (((i : Nat), 0), ⟨S.l.set i ⟨⟨1, s.c.n, s.c.p, s.c.ep⟩, ((carveF (up8 n) S.F).1, up8 n)⟩, (carveF (up8 n) S.F).2.2⟩) else ((0, 14), S)
def destroyS (f e : Int) (i : Int) (S : Sco) : Int × Sco :=
  if inS i 1 S = false then (11, S) else match S.l[i.toNat]? with
    | none => (11, S)
    | some s => if s.c.st = 0 then (11, S) else if s.c.st = 1 then (0, ⟨S.l.set i.toNat ⟨⟨0, 0, -1, (s.c.ep + 1) % 16777216⟩, (0, 0)⟩, (giveF f e s.x.1 s.x.2 S.F).2⟩) else (12, S)
def changeS (h : Ctl → Ctl × Int) (i : Int) (S : Sco) : Int × Sco :=
  if inS i 1 S = false then (11, S) else match S.l[i.toNat]? with
    | none => (11, S)
    | some s => if (h s.c).2 = 0 then (0, ⟨S.l.set i.toNat ⟨(h s.c).1, s.x⟩, S.F⟩) else ((h s.c).2, S)
def enterS (i k : Int) (S : Sco) : Int × Sco := changeS (fun c => enter c k) i S
def leaveS (i : Int) (S : Sco) : Int × Sco := changeS leave i S
/-- whether the one that was left is drained -/
def lastS (i : Int) (S : Sco) : Bool := if (leaveS i S).1 = 0 then (match (leaveS i S).2.l[i.toNat]? with | none => false | some s => s.c.st == 3) else false
def openS (i : Int) (S : Sco) : Int × Sco := changeS openC i S
def holdS (i : Int) (S : Sco) : Int × Sco := changeS hold i S
def ctlS (i : Int) (S : Sco) : Ctl × Int := if inS i 0 S = false then (noCtl, 11) else match S.l[i.toNat]? with | none => (noCtl, 11) | some s => (s.c, 0)
def extS (i : Int) (S : Sco) : Ext × Int := if inS i 0 S = false then ((0, 0), 11) else match S.l[i.toNat]? with | none => ((0, 0), 11) | some s => (s.x, 0)

/-- what all scopes are -/
structure ScOk (s : Sc) : Prop where
  r : Right s.c
  x0 : 0 ≤ s.x.1
  x1 : s.x.1 ≤ 131072
structure Fine (f e : Int) (S : Sco) : Prop where
  ok : ∀ s ∈ S.l, ScOk s
  n1 : 1 ≤ S.l.length
  n8 : S.l.length ≤ 8
  can : Canon f e S.F
  f0 : 0 ≤ f
  fe : f ≤ e
  e1 : e ≤ 131072

theorem enter_right {c : Ctl} {k : Int} (h : (enter c k).2 = 0) : Right (enter c k).1 := by
  unfold enter at h ⊢
  split at h
  · cases h
  · rename_i h1
    rw [if_neg h1]
    simp only [Classical.not_not] at h1
    obtain ⟨⟨r1, r2, r3⟩, k0, k7⟩ := h1
    split at h
    · cases h
    · rename_i h2
      rw [if_neg h2]
      split at h
      · cases h
      · rename_i h3
        rw [if_neg h3]
        split at h
        · rename_i h4
          rw [if_pos h4]
          exact ⟨r1, r2, .inr (.inl ⟨rfl, Int.le_refl _, show (1 : Int) ≤ 7 by decide, Int.le_trans (by decide) k0, k7⟩)⟩
        · rename_i h4
          rw [if_neg h4]
          split at h
          · cases h
          · rename_i h5
            rw [if_neg h5]
            split at h
            · cases h
            · rename_i h6
              rw [if_neg h6]
              exact ⟨r1, r2, by simp only; omega⟩
theorem ofState_zero {c : Ctl} {st : Int} (h : ¬ ofState c st ≠ 0) : Right c ∧ c.st = st := by
  simp only [ne_eq, Classical.not_not] at h
  unfold ofState at h
  split at h
  · cases h
  · rename_i h1
    simp only [Classical.not_not] at h1
    split at h
    · cases h
    · rename_i h2
      simp only [ne_eq, Classical.not_not] at h2
      exact ⟨h1, h2⟩
theorem leave_right {c : Ctl} (h : (leave c).2 = 0) : Right (leave c).1 := by
  unfold leave at h ⊢
  split at h
  · rename_i h1; exact absurd h h1
  · rename_i h1
    rw [if_neg h1]
    obtain ⟨⟨r1, r2, r3⟩, h2⟩ := ofState_zero h1
    refine ⟨r1, r2, ?_⟩
    simp only
    split <;> omega
theorem open_right {c : Ctl} (h : (openC c).2 = 0) : Right (openC c).1 := by
  unfold openC at h ⊢
  split at h
  · rename_i h1; exact absurd h h1
  · rename_i h1
    rw [if_neg h1]
    exact ⟨Int.emod_nonneg _ (by decide), by show (c.ep + 1) % 16777216 ≤ 16777215; omega, .inl ⟨.inr rfl, rfl, rfl⟩⟩
theorem hold_right {c : Ctl} (h : (hold c).2 = 0) : Right (hold c).1 := by
  unfold hold at h ⊢
  split at h
  · rename_i h1; exact absurd h h1
  · rename_i h1
    rw [if_neg h1]
    obtain ⟨⟨r1, r2, r3⟩, h2⟩ := ofState_zero h1
    exact ⟨r1, r2, .inr (.inl ⟨rfl, Int.le_refl _, show (1 : Int) ≤ 7 by decide, show -1 ≤ c.p by omega, show c.p ≤ 7 by omega⟩)⟩

theorem mem_set_or {α : Type} {l : List α} {i : Nat} {a b : α} (h : b ∈ l.set i a) : b = a ∨ b ∈ l := by
  obtain ⟨j, hj⟩ := List.mem_iff_getElem?.1 h
  rw [List.getElem?_set] at hj
  split at hj
  · split at hj
    · injection hj with hj; exact .inl hj.symm
    · cases hj
  · exact .inr (List.mem_of_getElem? hj)

theorem changeS_fine {f e : Int} {S : Sco} {h : Ctl → Ctl × Int} (hh : ∀ c, (h c).2 = 0 → Right (h c).1) (i : Int) (k : Fine f e S) : Fine f e (changeS h i S).2 := by
  unfold changeS
  split
  · exact k
  · split
    · exact k
    · rename_i s hs
      split
      · rename_i h0
        have h1 := k.ok s (List.mem_of_getElem? hs)
        exact { k with
          ok := fun t ht => by
            rcases mem_set_or ht with rfl | ht
            · exact ⟨hh _ h0, h1.x0, h1.x1⟩
            · exact k.ok t ht
          n1 := by rw [List.length_set]; exact k.n1
          n8 := by rw [List.length_set]; exact k.n8 }
      · exact k

theorem createS_len (n : Int) (S : Sco) : (createS n S).2.l.length = S.l.length := by
  unfold createS
  split
  · rfl
  · split
    · rfl
    · split
      · rfl
      · split
        · rw [List.length_set]
        · rfl
theorem destroyS_len (f e i : Int) (S : Sco) : (destroyS f e i S).2.l.length = S.l.length := by
  unfold destroyS
  split
  · rfl
  · split
    · rfl
    · split
      · rfl
      · split
        · rw [List.length_set]
        · rfl
theorem changeS_len (h : Ctl → Ctl × Int) (i : Int) (S : Sco) : (changeS h i S).2.l.length = S.l.length := by
  unfold changeS
  split
  · rfl
  · split
    · rfl
    · split
      · rw [List.length_set]
      · rfl

end Go.Proofs.YtnimaajnlkbdaaaGreat

namespace Go.Proofs.YtnimaajnlkbdaaaGreat
open Go.RowKit

theorem nat_hi8 (N : Nat) (h : N < 18446744073709551616) : N &&& 18446744073709551608 = N / 8 * 8 := by
  apply Nat.eq_of_testBit_eq
  intro i
  rw [Nat.testBit_and, show 18446744073709551608 = 2 ^ 64 - (7 + 1) by decide, Nat.testBit_two_pow_sub_succ (by decide), show (7 : Nat) = 2 ^ 3 - 1 by decide, Nat.testBit_two_pow_sub_one, show N / 8 * 8 = N / 2 ^ 3 * 2 ^ 3 by omega, Nat.testBit_mul_two_pow, Nat.testBit_div_two_pow]
  by_cases h3 : i < 3
  · simp [h3]; intro; omega
  · by_cases h64 : i < 64
    · simp [h64, show 3 ≤ i by omega, show i - 3 + 3 = i by omega]
    · have hlt : N < 2 ^ i := Nat.lt_of_lt_of_le h (by rw [show 18446744073709551616 = 2 ^ 64 by decide]; exact Nat.pow_le_pow_right (by omega) (by omega))
      simp [Nat.testBit_lt_two_pow hlt, show 3 ≤ i by omega, show i - 3 + 3 = i by omega]
theorem andNot7 (x : Int) (h0 : -9223372036854775808 ≤ x) (h1 : x ≤ 9223372036854775807) : bits .andNot .i64 x 7 = x / 8 * 8 := by
  show IntKind.i64.wrap ((BitVec.ofInt 64 x &&& ~~~BitVec.ofInt 64 7).toNat : Int) = _
  have h7 : (BitVec.ofInt 64 7).toNat = 7 := by decide
  rw [BitVec.toNat_and, BitVec.toNat_not, h7, show 2 ^ 64 - 1 - 7 = 18446744073709551608 by decide, nat_hi8 _ (BitVec.isLt _), BitVec.toNat_ofInt, IntKind.wrap_i64]
  omega

set_option maxHeartbeats 400000 in
theorem add_any (n : Int) (w : World) (h0 : 0 ≤ n) (h1 : n ≤ 65536) : Calls Tryz.prog 101 #[.int .i64 n, .int .i64 7] w fun r w' => r = .returned (.tuple #[.int .i64 (n + 7), .int .i64 0]) ∧ w' = w := by
  have hd : decide (n + 7 > n) = true := decide_eq_true (by omega)
  have hd2 : decide (n < n + 7) = true := decide_eq_true (by omega)
  go_enter Tryz.func101, Tryz.ntmps101
  go_wp2
  go_ret2
  exact ⟨rfl, rfl⟩
set_option maxHeartbeats 400000 in
theorem up_any (n : Int) (w : World) (h0 : 0 ≤ n) (h1 : n ≤ 65536) : Calls Tryz.prog 71 #[.int .i64 n] w fun r w' => r = .returned (.tuple #[.int .i64 (up8 n), .int .i64 0]) ∧ w' = w := by
  have hu : bits .andNot .i64 (n + 7) 7 = up8 n := andNot7 _ (by omega) (by omega)
  have hn : decide (n < 0) = false := decide_eq_false (by omega)
  go_enter Tryz.func71, Tryz.ntmps71
  go_wp2_with (go_at_call 101; refine (add_any _ _ h0 h1).mono ?_; rintro r w1 ⟨rfl, rfl⟩)
  go_ret2
  exact ⟨by rw [← hu]; rfl, rfl⟩

def fitP (p : Pln) : Pln := ⟨1 + p.s % 8, 1 + p.t % 4, 8 * (p.i % 64), 8 * (p.h % 128)⟩
theorem fitP_ok (p : Pln) : PlnOk (fitP p) := by unfold PlnOk fitP; simp only; omega

theorem inS_yes {i lo : Int} {S : Sco} (h : inS i lo S = true) (h0 : 0 ≤ lo) : ∃ k s, i = ((k : Nat) : Int) ∧ k < S.l.length ∧ S.l[k]? = some s := by
  simp only [inS, inB, decide_eq_true_eq] at h
  have hk : i.toNat < S.l.length := by omega
  exact ⟨i.toNat, S.l[i.toNat], by omega, hk, List.getElem?_eq_getElem hk⟩

/-- where it is refused -/
theorem createS_bad {n : Int} {S : Sco} (h : inB n 1 8192 = false) : createS n S = ((0, 1), S) := by unfold createS; rw [if_pos h]
theorem createS_many {n : Int} {S : Sco} (h : inB n 1 8192 = true) (hf : freeAt S.l = none) : createS n S = ((0, 13), S) := by unfold createS; rw [if_neg (by rw [h]; simp), hf]
theorem createS_at {n : Int} {S : Sco} {i : Nat} {s : Sc} (h : inB n 1 8192 = true) (hf : freeAt S.l = some i) (hs : S.l[i]? = some s) :
    createS n S = if (carveF (up8 n) S.F).2.1 = true then ((((i : Nat) : Int), 0), ⟨S.l.set i ⟨⟨1, s.c.n, s.c.p, s.c.ep⟩, ((carveF (up8 n) S.F).1, up8 n)⟩, (carveF (up8 n) S.F).2.2⟩) else ((0, 14), S) := by
  unfold createS; rw [if_neg (by rw [h]; simp), hf]; simp only [hs]

theorem up8_ok {n : Int} (h : inB n 1 8192 = true) : 8 ≤ up8 n ∧ up8 n ≤ 8192 ∧ up8 n % 8 = 0 ∧ 0 ≤ n ∧ n ≤ 65536 := by
  simp only [inB, decide_eq_true_eq] at h
  unfold up8
  omega

/-- where it is refused -/
theorem destroyS_out {f e i : Int} {S : Sco} (h : inS i 1 S = false) : destroyS f e i S = (11, S) := by unfold destroyS; rw [if_pos h]
theorem destroyS_at {f e : Int} {k : Nat} {S : Sco} {s : Sc} (h : inS k 1 S = true) (hs : S.l[k]? = some s) :
    destroyS f e k S = if s.c.st = 0 then (11, S) else if s.c.st = 1 then (0, ⟨S.l.set k ⟨⟨0, 0, -1, (s.c.ep + 1) % 16777216⟩, (0, 0)⟩, (giveF f e s.x.1 s.x.2 S.F).2⟩) else (12, S) := by
  unfold destroyS; rw [if_neg (by rw [h]; simp), Int.toNat_natCast]; simp only [hs]
def scFree : Sc := ⟨⟨0, 0, -1, 0⟩, (0, 0)⟩
/-- what all is in the beginning -/
def newS (P : Pln) : Sco := ⟨⟨⟨2, 1, -1, 0⟩, (P.s * 64, P.i)⟩ :: List.replicate (P.s.toNat - 1) scFree, oneExt (P.s * 64 + P.i) P.h⟩

theorem Gr.lower {B B' p : Nat} {w : World} {f e : Int} {l : List Ext} {q : Option Nat} (h : Gr B' w p f e l q) (hB : B ≤ B') : Gr B w p f e l q := by
  obtain ⟨A, c, h1, h2, h3⟩ := h.mem
  exact { h with mem := ⟨A, c, h1, own_mono h2 hB, h3⟩, low := Nat.le_trans hB h.low }

theorem createS_or (n : Int) (S : Sco) : (createS n S).1.2 = 0 ∨ (createS n S).2 = S := by
  unfold createS
  split
  · exact .inr rfl
  · split
    · exact .inr rfl
    · split
      · exact .inr rfl
      · split
        · exact .inl rfl
        · exact .inr rfl
theorem destroyS_or (f e i : Int) (S : Sco) : (destroyS f e i S).1 = 0 ∨ (destroyS f e i S).2 = S := by
  unfold destroyS
  split
  · exact .inr rfl
  · split
    · exact .inr rfl
    · split
      · exact .inr rfl
      · split
        · exact .inl rfl
        · exact .inr rfl
theorem createS_refused {n : Int} {S : Sco} (h : (createS n S).1.2 ≠ 0) : (createS n S).2 = S := (createS_or n S).resolve_left h
theorem destroyS_refused {f e i : Int} {S : Sco} (h : (destroyS f e i S).1 ≠ 0) : (destroyS f e i S).2 = S := (destroyS_or f e i S).resolve_left h
/-- what is changed is one scope, that was told -/
theorem createS_other {n : Int} {S : Sco} {j : Nat} (h : ∀ s, S.l[j]? = some s → s.c.st ≠ 0) : (createS n S).2.l[j]? = S.l[j]? := by
  unfold createS
  split
  · rfl
  · split
    · rfl
    · rename_i i hi
      split
      · rfl
      · rename_i s hs
        split
        · obtain ⟨y, h1, _, h2, _⟩ := findIdx_some hi
          rw [List.getElem?_set, if_neg]
          rintro rfl
          exact h y h1 (by simpa using h2)
        · rfl
theorem inS_low {i lo : Int} {S : Sco} (h : inS i lo S = true) : lo ≤ i := by
  simp only [inS, inB, decide_eq_true_eq] at h
  exact h.1
theorem destroyS_other {f e i : Int} {S : Sco} {j : Nat} (h : (j : Int) ≠ i) : (destroyS f e i S).2.l[j]? = S.l[j]? := by
  unfold destroyS
  split
  · rfl
  · rename_i h1
    have hl := inS_low (by simpa using h1)
    split
    · rfl
    · split
      · rfl
      · split
        · rw [List.getElem?_set, if_neg (by omega)]
        · rfl
theorem destroyS_zero {f e i : Int} {S : Sco} : (destroyS f e i S).2.l[0]? = S.l[0]? := by
  by_cases h : i = 0
  · subst h
    rw [destroyS_out (by simp [inS, inB])]
  · exact destroyS_other (by simpa using Ne.symm h)
theorem new_head (n : Nat) (t i m : Int) : (newS ⟨n, t, i, m⟩).l[0]? = some ⟨⟨2, 1, -1, 0⟩, ((n : Int) * 64, i)⟩ := rfl
theorem new_len (n : Nat) (h : 1 ≤ n) (t i m : Int) : (newS ⟨n, t, i, m⟩).l.length = n := by
  simp only [newS, Int.toNat_natCast, List.length_cons, List.length_replicate]
  omega

end Go.Proofs.YtnimaajnlkbdaaaGreat

namespace Go.Proofs.YtnimaajnlkbdaaaGreat
open Go.RowKit

def inX (x : Ext) (j : Int) : Prop := x.1 ≤ j ∧ j < x.1 + x.2
theorem inX_zero (j : Int) : ¬ inX (0, 0) j := by rintro ⟨h1, h2⟩; simp only at h1 h2; omega

structure Til (f e : Int) (S : Sco) : Prop where
  can : Canon f e S.F
  zero : ∃ z, S.l[0]? = some z ∧ z.c.st = 2
  own : ∀ k s, 1 ≤ k → S.l[k]? = some s → (s.c.st = 0 ∧ s.x = (0, 0)) ∨ (s.c.st = 1 ∧ Fits f e s.x)
  apart : ∀ i k s t, 1 ≤ i → 1 ≤ k → i ≠ k → S.l[i]? = some s → S.l[k]? = some t → ∀ j, inX s.x j → ¬ inX t.x j
  free : ∀ k s, 1 ≤ k → S.l[k]? = some s → ∀ j, inX s.x j → ¬ cov S.F j
  whole : ∀ j, f ≤ j → j < e → cov S.F j ∨ ∃ k s, 1 ≤ k ∧ S.l[k]? = some s ∧ inX s.x j

theorem til_create {f e n : Int} {S : Sco} (h : Til f e S) : Til f e (createS n S).2 := by
  cases hin : inB n 1 8192 with
  | false => rw [createS_bad hin]; exact h
  | true =>
    cases hf : freeAt S.l with
    | none => rw [createS_many hin hf]; exact h
    | some i =>
      obtain ⟨y, h1, _, h2, _⟩ := findIdx_some hf
      rw [createS_at hin hf h1]
      split
      · rename_i hc
        have hy : y.c.st = 0 := by simpa using h2
        obtain ⟨z, hz, hz2⟩ := h.zero
        have hi0 : i ≠ 0 := by
          rintro rfl
          rw [hz] at h1
          injection h1 with h1
          subst h1
          omega
        have hil : i < S.l.length := (List.getElem?_eq_some_iff.1 h1).1
        have hyx : y.x = (0, 0) := by
          rcases h.own i y (by omega) h1 with ⟨_, k⟩ | ⟨k, _⟩
          · exact k
          · omega
        obtain ⟨n1, n8, g3, g4, g5, g6, g7⟩ := carve_got h.can hc
        obtain ⟨a, ha⟩ : ∃ a, (carveF (up8 n) S.F).1 = a := ⟨_, rfl⟩
        obtain ⟨F, hF⟩ : ∃ F, (carveF (up8 n) S.F).2.2 = F := ⟨_, rfl⟩
        rw [ha] at g4 g6 g7
        rw [hF] at g3 g5 g6 g7
        simp only [ha, hF]
        have hset : ∀ k s, (S.l.set i ⟨⟨1, y.c.n, y.c.p, y.c.ep⟩, (a, up8 n)⟩)[k]? = some s → (k = i ∧ s = ⟨⟨1, y.c.n, y.c.p, y.c.ep⟩, (a, up8 n)⟩) ∨ (k ≠ i ∧ S.l[k]? = some s) := by
          intro k s hs
          rw [List.getElem?_set] at hs
          by_cases hk : i = k
          · subst hk
            rw [if_pos rfl] at hs
            rw [if_pos (List.getElem?_eq_some_iff.1 h1).1] at hs
            injection hs with hs
            exact .inl ⟨rfl, hs.symm⟩
          · rw [if_neg hk] at hs
            exact .inr ⟨fun e => hk e.symm, hs⟩
        refine ⟨g3, ⟨z, by rw [List.getElem?_set, if_neg hi0]; exact hz, hz2⟩, ?_, ?_, ?_, ?_⟩
        · intro k s hk hs
          rcases hset k s hs with ⟨rfl, rfl⟩ | ⟨_, hs⟩
          · exact .inr ⟨rfl, g4⟩
          · exact h.own k s hk hs
        · intro p k s t hp hk hpk hs ht j hj hj2
          rcases hset p s hs with ⟨e1, e2⟩ | ⟨_, hs'⟩
          · rcases hset k t ht with ⟨e3, _⟩ | ⟨_, ht'⟩
            · exact hpk (e1.trans e3.symm)
            · rw [e2] at hj
              exact h.free k t hk ht' j hj2 ((g6 j).2 (.inr hj))
          · rcases hset k t ht with ⟨_, e4⟩ | ⟨_, ht'⟩
            · rw [e4] at hj2
              exact h.free p s hp hs' j hj ((g6 j).2 (.inr hj2))
            · exact h.apart p k s t hp hk hpk hs' ht' j hj hj2
        · intro k s hk hs j hj hc2
          rcases hset k s hs with ⟨rfl, rfl⟩ | ⟨_, hs⟩
          · exact g7 j hc2 hj
          · exact h.free k s hk hs j hj ((g6 j).2 (.inl hc2))
        · intro j j1 j2
          rcases h.whole j j1 j2 with hj | ⟨k, s, hk, hs, hj⟩
          · rcases (g6 j).1 hj with hj | hj
            · exact .inl hj
            · exact .inr ⟨i, ⟨⟨1, y.c.n, y.c.p, y.c.ep⟩, (a, up8 n)⟩, by omega, by rw [List.getElem?_set, if_pos rfl, if_pos hil], hj⟩
          · have hki : i ≠ k := by
              rintro rfl
              rw [h1] at hs
              injection hs with hs
              subst hs
              rw [hyx] at hj
              exact inX_zero j hj
            exact .inr ⟨k, s, hk, by rw [List.getElem?_set, if_neg hki]; exact hs, hj⟩
      · exact h

theorem til_destroy {f e i : Int} {S : Sco} (h : Til f e S) : Til f e (destroyS f e i S).2 := by
  cases hin : inS i 1 S with
  | false => rw [destroyS_out hin]; exact h
  | true =>
    obtain ⟨k, y, rfl, hk, hy⟩ := inS_yes hin (by omega)
    have hk1 : 1 ≤ k := by
      have := inS_low hin
      omega
    rw [destroyS_at hin hy]
    split
    · exact h
    · split
      · rename_i h0 h1
        have hfit : Fits f e y.x := by
          rcases h.own k y hk1 hy with ⟨h2, _⟩ | ⟨_, h2⟩
          · omega
          · exact h2
        obtain ⟨g1, g2, g3⟩ := give_got (a := y.x.1) (n := y.x.2) h.can hfit (fun j j1 j2 => h.free k y hk1 hy j ⟨j1, j2⟩)
        rw [g1]
        obtain ⟨F, hF⟩ : ∃ F, joins (giveAll y.x.1 y.x.2 S.F) = F := ⟨_, rfl⟩
        rw [hF] at g2 g3
        simp only [hF]
        obtain ⟨z, hz, hz2⟩ := h.zero
        have hset : ∀ p s, (S.l.set k ⟨⟨0, 0, -1, (y.c.ep + 1) % 16777216⟩, (0, 0)⟩)[p]? = some s → (p = k ∧ s = ⟨⟨0, 0, -1, (y.c.ep + 1) % 16777216⟩, (0, 0)⟩) ∨ (p ≠ k ∧ S.l[p]? = some s) := by
          intro p s hs
          rw [List.getElem?_set] at hs
          by_cases hk : k = p
          · subst hk
            rw [if_pos rfl] at hs
            rw [if_pos (List.getElem?_eq_some_iff.1 hy).1] at hs
            injection hs with hs
            exact .inl ⟨rfl, hs.symm⟩
          · rw [if_neg hk] at hs
            exact .inr ⟨fun e => hk e.symm, hs⟩
        refine ⟨g2, ⟨z, by rw [List.getElem?_set, if_neg (by omega)]; exact hz, hz2⟩, ?_, ?_, ?_, ?_⟩
        · intro p s hp hs
          rcases hset p s hs with ⟨rfl, rfl⟩ | ⟨_, hs⟩
          · exact .inl ⟨rfl, rfl⟩
          · exact h.own p s hp hs
        · intro p q s t hp hq hpq hs ht j hj hj2
          rcases hset p s hs with ⟨rfl, rfl⟩ | ⟨_, hs⟩
          · exact inX_zero j hj
          · rcases hset q t ht with ⟨rfl, rfl⟩ | ⟨_, ht⟩
            · exact inX_zero j hj2
            · exact h.apart p q s t hp hq hpq hs ht j hj hj2
        · intro p s hp hs j hj hc2
          rcases hset p s hs with ⟨rfl, rfl⟩ | ⟨hpk, hs⟩
          · exact inX_zero j hj
          · rcases (g3 j).1 hc2 with hc2 | hc2
            · exact h.free p s hp hs j hj hc2
            · exact h.apart p k s y hp hk1 hpk hs hy j hj hc2
        · intro j j1 j2
          rcases h.whole j j1 j2 with hj | ⟨p, s, hp, hs, hj⟩
          · exact .inl ((g3 j).2 (.inl hj))
          · by_cases hpk : k = p
            · subst hpk
              rw [hy] at hs
              injection hs with hs
              subst hs
              exact .inl ((g3 j).2 (.inr hj))
            · exact .inr ⟨p, s, hp, by rw [List.getElem?_set, if_neg hpk]; exact hs, hj⟩
      · exact h

/-- behind an unmaking it is free -/
theorem til_freed {f e : Int} {k : Nat} {S : Sco} {s : Sc} (h : Til f e S) (hk : 1 ≤ k) (hs : (destroyS f e k S).2.l[k]? = some s) : s.c.st = 0 := by
  have hkl : k < S.l.length := by
    have := (List.getElem?_eq_some_iff.1 hs).1
    rw [destroyS_len] at this
    exact this
  obtain ⟨y, hy⟩ : ∃ y, S.l[k]? = some y := ⟨_, List.getElem?_eq_getElem hkl⟩
  have hin : inS k 1 S = true := by
    unfold inS inB
    simp
    omega
  rw [destroyS_at hin hy] at hs
  rcases h.own k y hk hy with ⟨h1, _⟩ | ⟨h1, _⟩
  · rw [if_pos h1] at hs
    simp only [hy] at hs
    injection hs with hs
    subst hs
    exact h1
  · rw [if_neg (by omega), if_pos h1] at hs
    simp only [List.getElem?_set, if_pos, hkl] at hs
    injection hs with hs
    subst hs
    rfl

/-- all are free: what is free is the whole -/
theorem til_whole {f e : Int} {S : Sco} (h : Til f e S) (h8 : f % 8 = 0) (h9 : e % 8 = 0) (ha : ∀ k s, 1 ≤ k → S.l[k]? = some s → s.c.st = 0) : S.F = if f < e then [(f, e - f)] else [] := by
  have hc : ∀ j, cov S.F j ↔ f ≤ j ∧ j < e := by
    intro j
    constructor
    · exact fun hj => h.can.low hj
    · rintro ⟨j1, j2⟩
      rcases h.whole j j1 j2 with hj | ⟨k, s, hk, hs, hj⟩
      · exact hj
      · exfalso
        have := ha k s hk hs
        rcases h.own k s hk hs with ⟨_, hx⟩ | ⟨h1, _⟩
        · rw [hx] at hj
          exact inX_zero j hj
        · omega
  split
  · rename_i hfe
    refine h.can.unique (m := [(f, e - f)]) (lo' := f) ⟨Int.le_refl _, by simp; omega, by simp; omega, by simp; omega, by simp; omega, trivial⟩ fun j => ?_
    rw [hc, cov_cons]
    simp only [cov_nil, or_false]
    omega
  · rename_i hfe
    refine h.can.unique (m := []) (lo' := f) trivial fun j => ?_
    rw [hc]
    constructor
    · intro _
      omega
    · exact fun hj => absurd hj (cov_nil j)

theorem til_new {n : Nat} {t i m : Int} (m0 : 0 ≤ m) (i8 : i % 8 = 0) (m8 : m % 8 = 0) : Til ((n : Int) * 64 + i) ((n : Int) * 64 + i + m) (newS ⟨n, t, i, m⟩) := by
  have hF : (newS ⟨n, t, i, m⟩).F = if m = 0 then [] else [((n : Int) * 64 + i, m)] := rfl
  have hs : ∀ k s, 1 ≤ k → (newS ⟨n, t, i, m⟩).l[k]? = some s → s.c.st = 0 ∧ s.x = (0, 0) := by
    intro k s hk h
    simp only [newS] at h
    rw [List.getElem?_cons] at h
    rw [if_neg (by omega)] at h
    rw [List.getElem?_replicate] at h
    split at h
    · injection h with h
      subst h
      exact ⟨rfl, rfl⟩
    · cases h
  refine ⟨?_, ⟨_, rfl, rfl⟩, fun k s hk h => .inl (hs k s hk h), fun p q s t' hp hq hpq h1 h2 j hj => ?_, fun k s hk h j hj => ?_, fun j j1 j2 => .inl ?_⟩
  · rw [hF]
    split
    · trivial
    · exact ⟨Int.le_refl _, by simp; omega, by simp; omega, by simp; omega, by simp, trivial⟩
  · rw [(hs p s hp h1).2] at hj
    exact absurd hj (inX_zero j)
  · rw [(hs k s hk h).2] at hj
    exact absurd hj (inX_zero j)
  · rw [hF, if_neg (by omega)]
    exact ⟨_, List.mem_singleton.2 rfl, j1, j2⟩

/-- words that are told to be used -/
structure Used (f : Int) (u : List Bool) (P : Int → Prop) : Prop where
  len : u.length = 128
  cov : ∀ j, wcov f u j ↔ P j
theorem Used.iff {f : Int} {u : List Bool} {P Q : Int → Prop} (h : Used f u P) (k : ∀ j, P j ↔ Q j) : Used f u Q := ⟨h.len, fun j => (h.cov j).trans (k j)⟩
theorem used_init (f : Int) (P : Int → Prop) (h : ∀ j, ¬ P j) : Used f (List.replicate 128 false) P := ⟨by simp, fun j => by
  constructor
  · rintro ⟨i, hi, _⟩
    rw [List.getElem?_replicate] at hi
    split at hi <;> cases hi
  · exact fun hj => absurd hj (h j)⟩
theorem used_step {f e : Int} {x : Ext} {u : List Bool} {P Q : Int → Prop} (h : Used f u P) (hx : Fits f e x) (h8 : f % 8 = 0) (he : e - f ≤ 1024) (hn : ∀ j, inX x j → ¬ P j) (hQ : ∀ j, (P j ∨ inX x j) ↔ Q j) :
    ∃ i m : Nat, x.1 = f + 8 * (i : Int) ∧ x.2 = 8 * (m : Int) ∧ i + m ≤ 128 ∧ (∀ j, i ≤ j → j < i + m → u[j]? = some false) ∧ Used f (setB u i true m) Q := by
  obtain ⟨g1, g2, g3, g4, g5⟩ := hx
  have hul := h.len
  obtain ⟨i, hi⟩ : ∃ i : Nat, x.1 = f + 8 * (i : Int) := ⟨((x.1 - f) / 8).toNat, by omega⟩
  obtain ⟨m, hm⟩ : ∃ m : Nat, x.2 = 8 * (m : Int) := ⟨(x.2 / 8).toNat, by omega⟩
  have him : i + m ≤ 128 := by omega
  refine ⟨i, m, hi, hm, him, fun j j1 j2 => ?_, by rw [setB_len]; exact hul, fun j => ?_⟩
  · cases hv : u[j]? with
    | none => simp at hv; omega
    | some v =>
      cases v with
      | false => rfl
      | true => exact absurd ((h.cov (f + 8 * (j : Int))).1 ⟨j, hv, by omega, by omega⟩) (hn _ ⟨by omega, by omega⟩)
  · rw [wcov_set h8 hi hm (by omega), ← hQ, h.cov]
    unfold inX
    split
    · rename_i hj
      simp [hj]
    · rename_i hj
      simp [hj]
theorem used_all {f e : Int} {u : List Bool} {P : Int → Prop} (h : Used f u P) (hP : ∀ j, f ≤ j → j < e → P j) {n : Nat} (hn : f + 8 * (n : Int) < e) : u[n]? = some true := by
  obtain ⟨i, hi, h1, h2⟩ := (h.cov _).2 (hP (f + 8 * (n : Int)) (by omega) hn)
  have : i = n := by omega
  subst this
  exact hi

/-- what the scopes below the k-th one have -/
def upto (S : Sco) (k : Nat) (j : Int) : Prop := ∃ i s, 1 ≤ i ∧ i < k ∧ S.l[i]? = some s ∧ inX s.x j
theorem upto_one (S : Sco) (j : Int) : ¬ upto S 1 j := by rintro ⟨i, s, h1, h2, _⟩; omega
theorem upto_next {S : Sco} {k : Nat} {s : Sc} (hk : 1 ≤ k) (hs : S.l[k]? = some s) (j : Int) : (upto S k j ∨ inX s.x j) ↔ upto S (k + 1) j := by
  constructor
  · rintro (⟨i, t, h1, h2, h3, h4⟩ | hj)
    · exact ⟨i, t, h1, by omega, h3, h4⟩
    · exact ⟨k, s, hk, by omega, hs, hj⟩
  · rintro ⟨i, t, h1, h2, h3, h4⟩
    by_cases hik : i = k
    · subst hik
      rw [hs] at h3
      injection h3 with h3
      subst h3
      exact .inr h4
    · exact .inl ⟨i, t, h1, by omega, h3, h4⟩
theorem upto_none {S : Sco} {k : Nat} {s : Sc} (hk : 1 ≤ k) (hs : S.l[k]? = some s) (hx : s.x = (0, 0)) (j : Int) : upto S k j ↔ upto S (k + 1) j := by
  rw [← upto_next hk hs, hx]
  exact ⟨.inl, fun h => h.elim id fun h => absurd h (inX_zero j)⟩
theorem til_apart {f e : Int} {S : Sco} (h : Til f e S) {k : Nat} {s : Sc} (hk : 1 ≤ k) (hs : S.l[k]? = some s) (j : Int) (hj : inX s.x j) : ¬ upto S k j := by
  rintro ⟨i, t, h1, h2, h3, h4⟩
  exact h.apart i k t s h1 hk (by omega) h3 hs j h4 hj
theorem til_free {f e : Int} {S : Sco} (h : Til f e S) {k : Nat} {x : Ext} (hx : S.F[k]? = some x) (j : Int) (hj : inX x j) : ¬ (upto S S.l.length j ∨ cov (S.F.take k) j) := by
  have hmem := List.mem_of_getElem? hx
  rintro (⟨i, t, h1, h2, h3, h4⟩ | ⟨y, hy, y1, y2⟩)
  · exact h.free i t h1 h3 j h4 ⟨x, hmem, hj⟩
  · have hp := h.can.pair
    obtain ⟨i, hi, rfl⟩ := List.getElem_of_mem hy
    rw [List.length_take] at hi
    rw [List.getElem_take] at y1 y2
    obtain ⟨hk, rfl⟩ := List.getElem?_eq_some_iff.1 hx
    rw [List.pairwise_iff_getElem] at hp
    have := hp i k (by omega) hk (by omega)
    have := hj.1
    omega
theorem free_next {S : Sco} {k : Nat} {x : Ext} (hx : S.F[k]? = some x) (j : Int) : ((upto S S.l.length j ∨ cov (S.F.take k) j) ∨ inX x j) ↔ (upto S S.l.length j ∨ cov (S.F.take (k + 1)) j) := by
  obtain ⟨hk, rfl⟩ := List.getElem?_eq_some_iff.1 hx
  rw [List.take_succ_eq_append_getElem hk, cov_append, cov_cons]
  simp only [cov_nil, or_false, or_assoc]
  exact Iff.rfl
theorem til_all {f e : Int} {S : Sco} (h : Til f e S) (j : Int) (j1 : f ≤ j) (j2 : j < e) : upto S S.l.length j ∨ cov (S.F.take S.F.length) j := by
  rw [List.take_length]
  rcases h.whole j j1 j2 with hj | ⟨k, s, hk, hs, hj⟩
  · exact .inr hj
  · exact .inl ⟨k, s, hk, (List.getElem?_eq_some_iff.1 hs).1, hs, hj⟩

/-- one scope's words, among those that are used -/
theorem til_spec {f e : Int} {S : Sco} {u : List Bool} {k : Nat} {s : Sc} (h : Til f e S) (hk : 1 ≤ k) (hs : S.l[k]? = some s) (hU : Used f u (upto S k)) (h8 : f % 8 = 0) (he : e - f ≤ 1024) :
    ∃ ii mm : Nat, s.x.2 = 8 * (mm : Int) ∧ (0 < mm → s.x.1 = f + 8 * (ii : Int)) ∧ ii + mm ≤ 128 ∧ (∀ j, ii ≤ j → j < ii + mm → u[j]? = some false) ∧ Used f (setB u ii true mm) (upto S (k + 1)) ∧
      ((s.c.st = 0 ∧ s.x = (0, 0) ∧ mm = 0) ∨ (s.c.st = 1 ∧ 0 < s.x.2 ∧ f ≤ s.x.1 ∧ s.x.1 + s.x.2 ≤ e)) := by
  rcases h.own k s hk hs with ⟨h1, h2⟩ | ⟨h1, h2⟩
  · refine ⟨0, 0, by rw [h2]; rfl, fun h => absurd h (by omega), by omega, fun j j1 j2 => by omega, ?_, .inl ⟨h1, h2, rfl⟩⟩
    exact hU.iff (upto_none hk hs h2)
  · obtain ⟨i, m, a1, a2, a3, a4, a5⟩ := used_step hU h2 h8 he (til_apart h hk hs) (upto_next hk hs)
    obtain ⟨g1, g2, g3, g4, g5⟩ := h2
    exact ⟨i, m, a2, fun _ => a1, a3, a4, a5, .inr ⟨h1, g2, g1, g5⟩⟩
theorem free_spec {f e : Int} {S : Sco} {u : List Bool} {k : Nat} {x : Ext} (h : Til f e S) (hx : S.F[k]? = some x) (hU : Used f u (fun j => upto S S.l.length j ∨ cov (S.F.take k) j)) (h8 : f % 8 = 0) (he : e - f ≤ 1024) :
    ∃ ii mm : Nat, x.2 = 8 * (mm : Int) ∧ x.1 = f + 8 * (ii : Int) ∧ ii + mm ≤ 128 ∧ (∀ j, ii ≤ j → j < ii + mm → u[j]? = some false) ∧ Used f (setB u ii true mm) (fun j => upto S S.l.length j ∨ cov (S.F.take (k + 1)) j) ∧
      f ≤ x.1 ∧ x.1 + x.2 ≤ e := by
  have hm := h.can.mem (List.mem_of_getElem? hx)
  obtain ⟨i, m, a1, a2, a3, a4, a5⟩ := used_step hU hm h8 he (til_free h hx) (free_next hx)
  obtain ⟨g1, g2, g3, g4, g5⟩ := hm
  exact ⟨i, m, a2, a1, a3, a4, a5, g1, g5⟩
theorem til_more {f e : Int} {k : Nat} {S : Sco} (h : Til f e S) (hk : 1 ≤ k) (ha : ∀ i s, 1 ≤ i → i < k → S.l[i]? = some s → s.c.st = 0) : ∀ i s, 1 ≤ i → i < k + 1 → (destroyS f e k S).2.l[i]? = some s → s.c.st = 0 := by
  intro i s hi hik hs
  by_cases e1 : i = k
  · subst e1
    exact til_freed h hk hs
  · rw [destroyS_other (by omega)] at hs
    exact ha i s hi (by omega) hs

end Go.Proofs.YtnimaajnlkbdaaaGreat
