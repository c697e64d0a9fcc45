/- The walks of the document's Words, Regs, and of layer 13's scope, Check, exit, goes, gate. -/
import Derived.Test.YtbijaloeilnjoaaGreatRefA
import Derived.Test.YtbijaloeilnjoaaGreatRT
namespace Go.Proofs.YtbijaloeilnjoaaGreat
open Go.RowKit
set_option linter.unusedVariables false
set_option linter.unusedSimpArgs false
theorem box7 {w : World} {g : Nat} {a b c d e f x : Value} {t : TypeId} (h : w.heap[g]? = some (.cells #[a, b, c, d, e, f, x] t (0, 0))) :
  w.cell? ⟨g, 0, none⟩ = some a ∧ w.cell? ⟨g, 1, none⟩ = some b ∧ w.cell? ⟨g, 2, none⟩ = some c ∧ w.cell? ⟨g, 3, none⟩ = some d ∧ w.cell? ⟨g, 4, none⟩ = some e ∧ w.cell? ⟨g, 5, none⟩ = some f ∧ w.cell? ⟨g, 6, none⟩ = some x :=
 ⟨by rw [row_cell h]; rfl, by rw [row_cell h]; rfl, by rw [row_cell h]; rfl, by rw [row_cell h]; rfl, by rw [row_cell h]; rfl, by rw [row_cell h]; rfl, by rw [row_cell h]; rfl⟩
def wordsOk (a b : Int) : Bool := inB a 0 6 && inB b 0 512
def wordsN (a b : Int) : Int := 2 + a + (b + 7) / 8
set_option maxRecDepth 100000 in
set_option maxHeartbeats 1000000 in
theorem rwords_any (a b : Int) (w : World) : Calls Tryz.prog 81 #[.int .i64 a, .int .i64 b] w fun r w' => r = .returned (.tuple #[.int .i64 (if wordsOk a b = true then wordsN a b else 0), .int .i64 (if wordsOk a b = true then 0 else 1)]) ∧ w' = w := by
 by_cases a0 : a < 0
 ·have d1 : decide (a < 0) = true := decide_eq_true (by omega)
  rw [show wordsOk a b = false by simp [wordsOk, inB]; omega]
  simp only [if_true, Bool.false_eq_true, if_false]
  go_enter Tryz.func81, Tryz.ntmps81
  go_wp2
  go_ret2
  exact ⟨rfl, rfl⟩
 ·by_cases a1 : a ≤ 6
  ·by_cases b0 : b < 0
   ·have d1 : decide (a < 0) = false := decide_eq_false (by omega)
    have d2 : decide (a > 6) = false := decide_eq_false (by omega)
    have d2' : decide (6 < a) = false := decide_eq_false (by omega)
    have d3 : decide (b < 0) = true := decide_eq_true (by omega)
    rw [show wordsOk a b = false by simp [wordsOk, inB]; omega]
    simp only [if_true, Bool.false_eq_true, if_false]
    go_enter Tryz.func81, Tryz.ntmps81
    go_wp2
    go_ret2
    exact ⟨rfl, rfl⟩
   ·by_cases b1 : b ≤ 512
    ·have d1 : decide (a < 0) = false := decide_eq_false (by omega)
     have d2 : decide (a > 6) = false := decide_eq_false (by omega)
     have d2' : decide (6 < a) = false := decide_eq_false (by omega)
     have d3 : decide (b < 0) = false := decide_eq_false (by omega)
     have d4 : decide (b > 512) = false := decide_eq_false (by omega)
     have d4' : decide (512 < b) = false := decide_eq_false (by omega)
     rw [show wordsOk a b = true by simp [wordsOk, inB]; omega]
     simp only [if_true, Bool.false_eq_true, if_false]
     have e1 : (b + 7).tdiv 8 = (b + 7) / 8 := Int.tdiv_eq_ediv_of_nonneg (by omega)
     go_enter Tryz.func81, Tryz.ntmps81
     go_wp2
     go_ret2
     exact ⟨rfl, rfl⟩
    ·have d1 : decide (a < 0) = false := decide_eq_false (by omega)
     have d2 : decide (a > 6) = false := decide_eq_false (by omega)
     have d2' : decide (6 < a) = false := decide_eq_false (by omega)
     have d3 : decide (b < 0) = false := decide_eq_false (by omega)
     have d4 : decide (b > 512) = true := decide_eq_true (by omega)
     have d4' : decide (512 < b) = true := decide_eq_true (by omega)
     rw [show wordsOk a b = false by simp [wordsOk, inB]; omega]
     simp only [if_true, Bool.false_eq_true, if_false]
     go_enter Tryz.func81, Tryz.ntmps81
     go_wp2
     go_ret2
     exact ⟨rfl, rfl⟩
  ·have d1 : decide (a < 0) = false := decide_eq_false (by omega)
   have d2 : decide (a > 6) = true := decide_eq_true (by omega)
   have d2' : decide (6 < a) = true := decide_eq_true (by omega)
   rw [show wordsOk a b = false by simp [wordsOk, inB]; omega]
   simp only [if_true, Bool.false_eq_true, if_false]
   go_enter Tryz.func81, Tryz.ntmps81
   go_wp2
   go_ret2
   exact ⟨rfl, rfl⟩

def regsS (c : Cal) : Bool := if c.op = 1 then rgOk c.r else if c.op = 7 then rgOk c.r else if c.op = 10 then rgOk c.r else if c.op = 8 then rgOk c.r && rgOk c.h else if c.op = 9 then rgOk c.h && rgOk c.v else if c.op = 11 then rgOk c.v else true
set_option maxRecDepth 100000 in
set_option maxHeartbeats 1000000 in
theorem regs_any (c : Cal) (w : World) (hc : CalOk c) : Calls Tryz.prog 107 #[c.vl] w fun r w' => r = .returned (.bool (regsS c)) ∧ Below w.heap.size w w' := by
 obtain ⟨co, cr, ch, cv, ca, cb, cc⟩ := c
 obtain ⟨r0, r1⟩ := hc.r
 obtain ⟨h0, h1⟩ := hc.h
 obtain ⟨v0, v1⟩ := hc.v
 dsimp only at r0 r1 h0 h1 v0 v1
 clear hc
 by_cases hX : co = 1 ∨ co = 7 ∨ co = 10 ∨ co = 8 ∨ co = 9 ∨ co = 11
 ·rcases hX with rfl | rfl | rfl | rfl | rfl | rfl
  ·go_enter Tryz.func107, Tryz.ntmps107
   go_wp2
   go_ret
   exact ⟨by simp [regsS, rgOk], by go_grown⟩
  ·go_enter Tryz.func107, Tryz.ntmps107
   go_wp2
   go_ret
   exact ⟨by simp [regsS, rgOk], by go_grown⟩
  ·go_enter Tryz.func107, Tryz.ntmps107
   go_wp2
   go_ret
   exact ⟨by simp [regsS, rgOk], by go_grown⟩
  ·cases dx : decide (cr < 4) <;> cases dy : decide (ch < 4)
   all_goals
    go_enter Tryz.func107, Tryz.ntmps107
    go_wp2
    go_ret
    exact ⟨by simp [regsS, rgOk, dx, dy], by go_grown⟩
  ·cases dx : decide (ch < 4) <;> cases dy : decide (cv < 4)
   all_goals
    go_enter Tryz.func107, Tryz.ntmps107
    go_wp2
    go_ret
    exact ⟨by simp [regsS, rgOk, dx, dy], by go_grown⟩
  ·go_enter Tryz.func107, Tryz.ntmps107
   go_wp2
   go_ret
   exact ⟨by simp [regsS, rgOk], by go_grown⟩
 ·have n1 : co ≠ 1 := by omega
  have n7 : co ≠ 7 := by omega
  have n10 : co ≠ 10 := by omega
  have n8 : co ≠ 8 := by omega
  have n9 : co ≠ 9 := by omega
  have n11 : co ≠ 11 := by omega
  have d1 : (co == 1) = false := beq_false_of_ne (by omega)
  have d7 : (co == 7) = false := beq_false_of_ne (by omega)
  have d10 : (co == 10) = false := beq_false_of_ne (by omega)
  have d8 : (co == 8) = false := beq_false_of_ne (by omega)
  have d9 : (co == 9) = false := beq_false_of_ne (by omega)
  have d11 : (co == 11) = false := beq_false_of_ne (by omega)
  have Hn := Lib.hid (show regsS ⟨co, cr, ch, cv, ca, cb, cc⟩ = true by simp [regsS, n1, n7, n10, n8, n9, n11])
  clear hX n1 n7 n10 n8 n9 n11
  rw [Hn.out]
  go_enter Tryz.func107, Tryz.ntmps107
  go_wp2
  go_ret
  exact ⟨by rfl, by go_grown⟩




def exitS (l : List Ent) : Int × Int := match l.getLast? with | none => (23, 0) | some (_, true) => (0, 15) | some (_, false) => (0, 0)
set_option maxRecDepth 100000 in
set_option maxHeartbeats 1000000 in
theorem rexit_any (A : Option Addr) (k : Nat) (l : List Ent) (w : World) (hl : l.length ≤ 1048576) (he : Ents w A l) :
  Calls Tryz.prog 110 #[.slice A l.length k] w fun r w' => r = .returned (.tuple #[.int .i64 (exitS l).1, .int .i64 (exitS l).2]) ∧ w' = w := by
 rcases List.eq_nil_or_concat l with rfl | ⟨l', ⟨s, x⟩, rfl⟩
 ·go_enter Tryz.func110, Tryz.ntmps110
  go_wp2
  go_ret2
  exact ⟨rfl, rfl⟩
 ·rw [show l'.concat (s, x) = l' ++ [(s, x)] by simp] at *
  obtain ⟨b, off, rfl, _, hc⟩ := he.at_ (by simp)
  obtain ⟨h0, h1⟩ := hc l'.length s x (by simp)
  have Ha := Lib.hid (show exitS (l' ++ [(s, x)]) = if x then (0, 15) else (0, 0) by unfold exitS; cases x <;> simp)
  clear hc he
  rw [List.length_append, List.length_singleton] at hl ⊢
  have d0 : ((l'.length : Int) + 1 == 0) = false := beq_false_of_ne (by omega)
  rw [Ha.out]
  cases x with
  | true =>
   go_enter Tryz.func110, Tryz.ntmps110
   go_wp2
   go_ret2
   exact ⟨rfl, rfl⟩
  | false =>
   go_enter Tryz.func110, Tryz.ntmps110
   go_wp2
   go_ret2
   exact ⟨rfl, rfl⟩






end Go.Proofs.YtbijaloeilnjoaaGreat
