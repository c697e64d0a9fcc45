/- What scopes are, in plain terms: of each what its control word tells and its extent; what is free; what becomes of them. Scopes made and unmade, in plain terms. ScopesApart in plain terms: the extents of scopes that are made are apart, and with what is free all of the heap. No program in sight. -/
import Derived.Test.YtbijaloeilnjoaaGreatMH
import Derived.Test.YtbijaloeilnjoaaGreatMA
import Derived.Test.YtbijaloeilnjoaaGreatNum
namespace Go.Proofs.YtbijaloeilnjoaaGreat
open Go.RowKit

structure Sc where
 c : Ctl
 x : Ext

/-- all scopes, and what is free -/
structure Sco where
 l : List Sc
 F : List Ext

def up8 (n : Int) : Int := (n + 7) / 8 * 8
def freeAt (l : List Sc) : Option Nat := l.findIdx? fun s => s.c.st == 0
def inS (i lo : Int) (S : Sco) : Bool := inB i lo ((S.l.length : Int) - 1)

def createS (n : Int) (S : Sco) : (Int × Int) × Sco :=
 if inB n 1 8192 = false then ((0, 1), S) else match freeAt S.l with
  | none => ((0, 13), S)
  | some i => match S.l[i]? with
   | none => ((0, 13), S)
   | some s => if (carveF (up8 n) S.F).2.1 = true then (((i : Nat), 0), ⟨S.l.set i ⟨⟨1, s.c.n, s.c.p, s.c.ep⟩, ((carveF (up8 n) S.F).1, up8 n)⟩, (carveF (up8 n) S.F).2.2⟩) else ((0, 14), S)
def destroyS (f e : Int) (i : Int) (S : Sco) : Int × Sco :=
 if inS i 1 S = false then (11, S) else match S.l[i.toNat]? with
  | none => (11, S)
  | some s => if s.c.st = 0 then (11, S) else if s.c.st = 1 then (0, ⟨S.l.set i.toNat ⟨⟨0, 0, -1, (s.c.ep + 1) % 16777216⟩, (0, 0)⟩, (giveF f e s.x.1 s.x.2 S.F).2⟩) else (12, S)

/-- what all scopes are -/
structure ScOk (s : Sc) : Prop where
 r : Right s.c
 x0 : 0 ≤ s.x.1
 x1 : s.x.1 ≤ 131072





end Go.Proofs.YtbijaloeilnjoaaGreat

namespace Go.Proofs.YtbijaloeilnjoaaGreat
open Go.RowKit

theorem nat_hi8 (N : Nat) (h : N < 18446744073709551616) : N &&& 18446744073709551608 = N / 8 * 8 := by
 apply Nat.eq_of_testBit_eq
 intro i
 rw [Nat.testBit_and, show 18446744073709551608 = 2 ^ 64 - (7 + 1) by decide, Nat.testBit_two_pow_sub_succ (by decide), show (7 : Nat) = 2 ^ 3 - 1 by decide, Nat.testBit_two_pow_sub_one, show N / 8 * 8 = N / 2 ^ 3 * 2 ^ 3 by omega, Nat.testBit_mul_two_pow, Nat.testBit_div_two_pow]
 by_cases h3 : i < 3
 ·simp [h3]; intro; omega
 ·by_cases h64 : i < 64
  ·simp [h64, show 3 ≤ i by omega, show i - 3 + 3 = i by omega]
  ·have hlt : N < 2 ^ i := Nat.lt_of_lt_of_le h (by rw [show 18446744073709551616 = 2 ^ 64 by decide]; exact Nat.pow_le_pow_right (by omega) (by omega))
   simp [Nat.testBit_lt_two_pow hlt, show 3 ≤ i by omega, show i - 3 + 3 = i by omega]
theorem andNot7 (x : Int) (h0 : -9223372036854775808 ≤ x) (h1 : x ≤ 9223372036854775807) : bits .andNot .i64 x 7 = x / 8 * 8 := by
 show IntKind.i64.wrap ((BitVec.ofInt 64 x &&& ~~~BitVec.ofInt 64 7).toNat : Int) = _
 have h7 : (BitVec.ofInt 64 7).toNat = 7 := by decide
 rw [BitVec.toNat_and, BitVec.toNat_not, h7, show 2 ^ 64 - 1 - 7 = 18446744073709551608 by decide, nat_hi8 _ (BitVec.isLt _), BitVec.toNat_ofInt, IntKind.wrap_i64]
 omega

set_option maxHeartbeats 400000 in
theorem add_any (n : Int) (w : World) (h0 : 0 ≤ n) (h1 : n ≤ 65536) : Calls Tryz.prog 118 #[.int .i64 n, .int .i64 7] w fun r w' => r = .returned (.tuple #[.int .i64 (n + 7), .int .i64 0]) ∧ w' = w := by
 have hd : decide (n + 7 > n) = true := decide_eq_true (by omega)
 have hd2 : decide (n < n + 7) = true := decide_eq_true (by omega)
 go_enter Tryz.func118, Tryz.ntmps118
 go_wp2
 go_ret2
 exact ⟨rfl, rfl⟩
set_option maxHeartbeats 400000 in
theorem up_any (n : Int) (w : World) (h0 : 0 ≤ n) (h1 : n ≤ 65536) : Calls Tryz.prog 79 #[.int .i64 n] w fun r w' => r = .returned (.tuple #[.int .i64 (up8 n), .int .i64 0]) ∧ w' = w := by
 have hu : bits .andNot .i64 (n + 7) 7 = up8 n := andNot7 _ (by omega) (by omega)
 have hn : decide (n < 0) = false := decide_eq_false (by omega)
 go_enter Tryz.func79, Tryz.ntmps79
 go_wp2_with (go_at_call 118; refine (add_any _ _ h0 h1).mono ?_; rintro r w1 ⟨rfl, rfl⟩)
 go_ret2
 exact ⟨by rw [← hu]; rfl, rfl⟩


theorem inS_yes {i lo : Int} {S : Sco} (h : inS i lo S = true) (h0 : 0 ≤ lo) : ∃ k s, i = ((k : Nat) : Int) ∧ k < S.l.length ∧ S.l[k]? = some s := by
 simp only [inS, inB, decide_eq_true_eq] at h
 have hk : i.toNat < S.l.length := by omega
 exact ⟨i.toNat, S.l[i.toNat], by omega, hk, List.getElem?_eq_getElem hk⟩

/-- where it is refused -/
theorem createS_bad {n : Int} {S : Sco} (h : inB n 1 8192 = false) : createS n S = ((0, 1), S) := by unfold createS; rw [if_pos h]
theorem createS_many {n : Int} {S : Sco} (h : inB n 1 8192 = true) (hf : freeAt S.l = none) : createS n S = ((0, 13), S) := by unfold createS; rw [if_neg (by rw [h]; simp), hf]
theorem createS_at {n : Int} {S : Sco} {i : Nat} {s : Sc} (h : inB n 1 8192 = true) (hf : freeAt S.l = some i) (hs : S.l[i]? = some s) :
  createS n S = if (carveF (up8 n) S.F).2.1 = true then ((((i : Nat) : Int), 0), ⟨S.l.set i ⟨⟨1, s.c.n, s.c.p, s.c.ep⟩, ((carveF (up8 n) S.F).1, up8 n)⟩, (carveF (up8 n) S.F).2.2⟩) else ((0, 14), S) := by
 unfold createS; rw [if_neg (by rw [h]; simp), hf]; simp only [hs]

theorem up8_ok {n : Int} (h : inB n 1 8192 = true) : 8 ≤ up8 n ∧ up8 n ≤ 8192 ∧ up8 n % 8 = 0 ∧ 0 ≤ n ∧ n ≤ 65536 := by
 simp only [inB, decide_eq_true_eq] at h
 unfold up8
 omega

theorem destroyS_at {f e : Int} {k : Nat} {S : Sco} {s : Sc} (h : inS k 1 S = true) (hs : S.l[k]? = some s) :
  destroyS f e k S = if s.c.st = 0 then (11, S) else if s.c.st = 1 then (0, ⟨S.l.set k ⟨⟨0, 0, -1, (s.c.ep + 1) % 16777216⟩, (0, 0)⟩, (giveF f e s.x.1 s.x.2 S.F).2⟩) else (12, S) := by
 unfold destroyS; rw [if_neg (by rw [h]; simp), Int.toNat_natCast]; simp only [hs]
def scFree : Sc := ⟨⟨0, 0, -1, 0⟩, (0, 0)⟩
/-- what all is in the beginning -/
def newS (P : Pln) : Sco := ⟨⟨⟨2, 1, -1, 0⟩, (P.s * 64, P.i)⟩ :: List.replicate (P.s.toNat - 1) scFree, oneExt (P.s * 64 + P.i) P.h⟩

theorem Gr.lower {B B' p : Nat} {w : World} {f e : Int} {l : List Ext} {q : Option Nat} (h : Gr B' w p f e l q) (hB : B ≤ B') : Gr B w p f e l q := by
 obtain ⟨A, c, h1, h2, h3⟩ := h.mem
 exact { h with mem := ⟨A, c, h1, own_mono h2 hB, h3⟩, low := Nat.le_trans hB h.low }

theorem createS_or (n : Int) (S : Sco) : (createS n S).1.2 = 0 ∨ (createS n S).2 = S := by
 unfold createS
 split
 ·exact .inr rfl
 ·split
  ·exact .inr rfl
  ·split
   ·exact .inr rfl
   ·split
    ·exact .inl rfl
    ·exact .inr rfl
theorem createS_refused {n : Int} {S : Sco} (h : (createS n S).1.2 ≠ 0) : (createS n S).2 = S := (createS_or n S).resolve_left h

end Go.Proofs.YtbijaloeilnjoaaGreat

namespace Go.Proofs.YtbijaloeilnjoaaGreat
open Go.RowKit











end Go.Proofs.YtbijaloeilnjoaaGreat
