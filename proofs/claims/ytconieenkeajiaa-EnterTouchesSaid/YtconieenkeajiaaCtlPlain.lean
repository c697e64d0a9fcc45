/- What a control word tells, in plain terms. No program in sight. -/
import Derived.Test.YtconieenkeajiaaLib
namespace Go.Proofs.Ytconieenkeajiaa
open Go.RowKit

structure Ctl where
  st : Int
  n : Int
  p : Int
  ep : Int

abbrev Ctl.cells (c : Ctl) : List Value := [.int .i64 c.st, .int .i64 c.n, .int .i64 c.p, .int .i64 c.ep]
abbrev Ctl.val (c : Ctl) : Value := .agg #[.int .i64 c.st, .int .i64 c.n, .int .i64 c.p, .int .i64 c.ep]

theorem Ctl.ext_ {a b : Ctl} (h1 : a.st = b.st) (h2 : a.n = b.n) (h3 : a.p = b.p) (h4 : a.ep = b.ep) : a = b := by
  cases a; cases b; simp_all

def Right (c : Ctl) : Prop := 0 ≤ c.ep ∧ c.ep ≤ 16777215 ∧ ((c.st = 0 ∨ c.st = 1) ∧ c.n = 0 ∧ c.p = -1 ∨ c.st = 2 ∧ 1 ≤ c.n ∧ c.n ≤ 7 ∧ -1 ≤ c.p ∧ c.p ≤ 7 ∨ c.st = 3 ∧ c.n = 0 ∧ -1 ≤ c.p ∧ c.p ≤ 7)
instance (c : Ctl) : Decidable (Right c) := by unfold Right; infer_instance

/-- tests as Booleans behind a name, so that the walk leaves them whole -/
def inB (n lo hi : Int) : Bool := decide (lo ≤ n ∧ n ≤ hi)
theorem inB_t {n lo hi : Int} (h : lo ≤ n ∧ n ≤ hi) : inB n lo hi = true := decide_eq_true h
theorem inB_f {n lo hi : Int} (h : ¬ (lo ≤ n ∧ n ≤ hi)) : inB n lo hi = false := decide_eq_false h
def rightB (c : Ctl) : Bool := decide (Right c)
theorem rightB_t {c : Ctl} (h : Right c) : rightB c = true := decide_eq_true h
theorem rightB_f {c : Ctl} (h : ¬ Right c) : rightB c = false := decide_eq_false h

def noCtl : Ctl := ⟨0, 0, 0, 0⟩
def word (c : Ctl) : Int := c.st + 4 * c.n + 1024 * (c.p + 1) + 262144 * c.ep
def told (w : Int) : Ctl := ⟨w % 4, w / 4 % 256, w / 1024 % 256 - 1, w / 262144 % 16777216⟩
def pack (c : Ctl) : Int × Int := if Right c then (word c, 0) else (0, 1)
def unpack (w : Int) : Ctl × Int := if Right (told w) ∧ w < 4398046511104 then (told w, 0) else (noCtl, 1)
def enter (c : Ctl) (from_ : Int) : Ctl × Int :=
  if ¬ (Right c ∧ 0 ≤ from_ ∧ from_ ≤ 7) then (noCtl, 1)
  else if c.st = 0 then (noCtl, 11)
  else if c.st = 3 then (noCtl, 10)
  else if c.st = 1 then (⟨2, 1, from_, c.ep⟩, 0)
  else if c.p ≠ from_ then (noCtl, 15)
  else if c.n = 7 then (noCtl, 16)
  else (⟨c.st, c.n + 1, c.p, c.ep⟩, 0)
def ofState (c : Ctl) (st : Int) : Int := if ¬ Right c then 1 else if c.st ≠ st then 11 else 0
def leave (c : Ctl) : Ctl × Int := if ofState c 2 ≠ 0 then (noCtl, ofState c 2) else (⟨if c.n = 1 then 3 else c.st, c.n - 1, c.p, c.ep⟩, 0)
def openC (c : Ctl) : Ctl × Int := if ofState c 3 ≠ 0 then (noCtl, ofState c 3) else (⟨1, 0, -1, (c.ep + 1) % 16777216⟩, 0)
def hold (c : Ctl) : Ctl × Int := if ofState c 3 ≠ 0 then (noCtl, ofState c 3) else (⟨2, 1, c.p, c.ep⟩, 0)

theorem right_word {c : Ctl} (h : Right c) : 0 ≤ word c ∧ word c < 4398046511104 ∧ told (word c) = c := by
  obtain ⟨h1, h2, h3⟩ := h
  have hb : 0 ≤ c.st ∧ c.st ≤ 3 ∧ 0 ≤ c.n ∧ c.n ≤ 7 ∧ -1 ≤ c.p ∧ c.p ≤ 7 := by omega
  obtain ⟨a1, a2, a3, a4, a5, a6⟩ := hb
  unfold word
  refine ⟨by omega, by omega, ?_⟩
  refine Ctl.ext_ ?_ ?_ ?_ ?_ <;> simp only [told] <;> omega

theorem word_told {w : Int} (h0 : 0 ≤ w) (h1 : w < 4398046511104) : word (told w) = w := by
  simp only [word, told]
  omega

theorem right_bd {c : Ctl} (h : Right c) : 0 ≤ c.st ∧ c.st ≤ 3 ∧ 0 ≤ c.n ∧ c.n ≤ 7 ∧ -1 ≤ c.p ∧ c.p ≤ 7 ∧ 0 ≤ c.ep ∧ c.ep ≤ 16777215 := by
  obtain ⟨h1, h2, h3⟩ := h
  omega

end Go.Proofs.Ytconieenkeajiaa
