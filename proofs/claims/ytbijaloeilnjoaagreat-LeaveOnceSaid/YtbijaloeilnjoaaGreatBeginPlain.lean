/- How a call begins, in plain terms. No program in sight. -/
import Derived.Test.YtbijaloeilnjoaaGreatMA
namespace Go.Proofs.YtbijaloeilnjoaaGreat
open Go.RowKit

/-- a call: what, which registers, and numbers -/
structure Cal where
  op : Int
  r : Int
  h : Int
  v : Int
  a : Int
  b : Int
  c : Int
structure CalOk (c : Cal) : Prop where
  op : 0 ≤ c.op ∧ c.op ≤ 255
  r : 0 ≤ c.r ∧ c.r ≤ 255
  h : 0 ≤ c.h ∧ c.h ≤ 255
  v : 0 ≤ c.v ∧ c.v ≤ 255
  a : -9223372036854775808 ≤ c.a ∧ c.a ≤ 9223372036854775807
  b : -9223372036854775808 ≤ c.b ∧ c.b ≤ 9223372036854775807
  c : -9223372036854775808 ≤ c.c ∧ c.c ≤ 9223372036854775807

/-- what a handle tells -/
abbrev Rf := Int × Int × Int
def refOk (h : Int) : Prop := h / 16777216 % 256 < 8 ∧ h / 4294967296 ≤ 16777215 ∧ 1 ≤ h % 16777216 ∧ h % 16777216 ≤ 8191
instance (h : Int) : Decidable (refOk h) := by unfold refOk; infer_instance
def rfOf (h : Int) : Rf := (h / 16777216 % 256, h / 4294967296, 8 * (h % 16777216))
def unpackR (h : Int) : Rf × Int := if refOk h then (rfOf h, 0) else ((0, 0, 0), 18)
def checkR (n : Int) (l : List Ent) (h : Int) : Rf × Int :=
  if ¬ (unpackR h).2 = 0 then ((0, 0, 0), 18) else if n ≤ (unpackR h).1.1 then ((0, 0, 0), 18) else if reach l (unpackR h).1.1 = false then ((0, 0, 0), 20) else ((unpackR h).1, 0)

def rgOk (x : Int) : Bool := decide (x < 4)
/-- the code that a call begins with, and what it does first -/
def beginS (n : Int) (l : List Ent) (c : Cal) (h v : Int) : Int × Int :=
  if c.op = 0 then (0, 0)
  else if c.op = 1 then (if rgOk c.r then (0, 0) else (1, 0))
  else if c.op = 2 then (if inB c.a 1 8192 then (0, 1) else (1, 0))
  else if c.op = 3 then (if inB c.a 1 (n - 1) then (0, 1) else (11, 0))
  else if c.op = 4 then (if inB c.a 1 (n - 1) = false then (11, 0) else if 6 ≤ l.length then (24, 0) else (0, 13))
  else if c.op = 5 then (match l.getLast? with | none => (23, 0) | some (_, true) => (0, 15) | some (_, false) => (0, 0))
  else if c.op = 6 then (if inB c.a 0 (n - 1) = false then (11, 0) else if reach l c.a = false then (20, 0) else if 6 ≤ l.length then (24, 0) else (0, 0))
  else if c.op = 7 then (if (rgOk c.r && inB c.c 0 7 && inB c.a 0 6 && inB c.b 0 512) = true then (0, 5) else (1, 0))
  else if c.op = 8 then (if (rgOk c.r && rgOk c.h) = false then (1, 0) else if (checkR n l h).2 = 0 then (0, 5) else ((checkR n l h).2, 0))
  else if c.op = 9 then (if (rgOk c.h && rgOk c.v) = false then (1, 0) else if (checkR n l h).2 = 0 then (0, 5) else ((checkR n l h).2, 0))
  else if c.op = 10 then (if rgOk c.r = false then (1, 0) else if inB c.a 1 (n - 1) = false then (11, 0) else if reach l c.a = false then (20, 0) else (0, 11))
  else if c.op = 11 then (if rgOk c.v = false then (1, 0) else if inB c.a 1 (n - 1) = false then (11, 0) else if reach l c.a = false then (20, 0) else if v = 0 then (0, 12) else if (checkR n l v).2 = 0 then (0, 7) else ((checkR n l v).2, 0))
  else (1, 0)

def Cal.cells (c : Cal) : List Value := [.int .u8 c.op, .int .u8 c.r, .int .u8 c.h, .int .u8 c.v, .int .i64 c.a, .int .i64 c.b, .int .i64 c.c]

end Go.Proofs.YtbijaloeilnjoaaGreat
