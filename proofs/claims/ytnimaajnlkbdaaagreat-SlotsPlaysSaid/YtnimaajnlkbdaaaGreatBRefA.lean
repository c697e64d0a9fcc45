/- The walks of the document's Words, Regs, and of layer 13's scope, Check, exit, goes, gate. -/
import Derived.Test.YtnimaajnlkbdaaaGreatRefA
import Derived.Test.YtnimaajnlkbdaaaGreatTree
namespace Go.Proofs.YtnimaajnlkbdaaaGreat
open Go.RowKit
set_option linter.unusedVariables false
set_option linter.unusedSimpArgs false
theorem rreach_b (A : Option Addr) (c : Nat) (l : List Ent) (s : Int) (w : World) (hl : l.length ≤ 9223372036854775807) (he : Ents w A l) :
  Calls Tryz.prog 114 #[.slice A l.length c, .int .i64 s] w fun e w' => e = .returned (.bool (reach l s)) ∧ Below w.heap.size w w' :=
 (rreach_any A c l s w hl he).mono fun e w' ⟨h1, h2⟩ => by subst h2; exact ⟨h1, Below.refl _ _⟩
theorem box7 {w : World} {g : Nat} {a b c d e f x : Value} {t : TypeId} (h : w.heap[g]? = some (.cells #[a, b, c, d, e, f, x] t (0, 0))) :
  w.cell? ⟨g, 0, none⟩ = some a ∧ w.cell? ⟨g, 1, none⟩ = some b ∧ w.cell? ⟨g, 2, none⟩ = some c ∧ w.cell? ⟨g, 3, none⟩ = some d ∧ w.cell? ⟨g, 4, none⟩ = some e ∧ w.cell? ⟨g, 5, none⟩ = some f ∧ w.cell? ⟨g, 6, none⟩ = some x :=
 ⟨by rw [row_cell h]; rfl, by rw [row_cell h]; rfl, by rw [row_cell h]; rfl, by rw [row_cell h]; rfl, by rw [row_cell h]; rfl, by rw [row_cell h]; rfl, by rw [row_cell h]; rfl⟩
def wordsOk (a b : Int) : Bool := inB a 0 6 && inB b 0 512
def wordsN (a b : Int) : Int := 2 + a + (b + 7) / 8
set_option maxRecDepth 100000 in
set_option maxHeartbeats 1000000 in
theorem rwords_any (a b : Int) (w : World) : Calls Tryz.prog 77 #[.int .i64 a, .int .i64 b] w fun r w' => r = .returned (.tuple #[.int .i64 (if wordsOk a b = true then wordsN a b else 0), .int .i64 (if wordsOk a b = true then 0 else 1)]) ∧ w' = w := by
 by_cases a0 : a < 0
 ·have d1 : decide (a < 0) = true := decide_eq_true (by omega)
  rw [show wordsOk a b = false by simp [wordsOk, inB]; omega]
  simp only [if_true, Bool.false_eq_true, if_false]
  go_enter Tryz.func77, Tryz.ntmps77
  go_wp2
  go_ret2
  exact ⟨rfl, rfl⟩
 ·by_cases a1 : a ≤ 6
  ·by_cases b0 : b < 0
   ·have d1 : decide (a < 0) = false := decide_eq_false (by omega)
    have d2 : decide (a > 6) = false := decide_eq_false (by omega)
    have d2' : decide (6 < a) = false := decide_eq_false (by omega)
    have d3 : decide (b < 0) = true := decide_eq_true (by omega)
    rw [show wordsOk a b = false by simp [wordsOk, inB]; omega]
    simp only [if_true, Bool.false_eq_true, if_false]
    go_enter Tryz.func77, Tryz.ntmps77
    go_wp2
    go_ret2
    exact ⟨rfl, rfl⟩
   ·by_cases b1 : b ≤ 512
    ·have d1 : decide (a < 0) = false := decide_eq_false (by omega)
     have d2 : decide (a > 6) = false := decide_eq_false (by omega)
     have d2' : decide (6 < a) = false := decide_eq_false (by omega)
     have d3 : decide (b < 0) = false := decide_eq_false (by omega)
     have d4 : decide (b > 512) = false := decide_eq_false (by omega)
     have d4' : decide (512 < b) = false := decide_eq_false (by omega)
     rw [show wordsOk a b = true by simp [wordsOk, inB]; omega]
     simp only [if_true, Bool.false_eq_true, if_false]
     have e1 : (b + 7).tdiv 8 = (b + 7) / 8 := Int.tdiv_eq_ediv_of_nonneg (by omega)
     go_enter Tryz.func77, Tryz.ntmps77
     go_wp2
     go_ret2
     exact ⟨rfl, rfl⟩
    ·have d1 : decide (a < 0) = false := decide_eq_false (by omega)
     have d2 : decide (a > 6) = false := decide_eq_false (by omega)
     have d2' : decide (6 < a) = false := decide_eq_false (by omega)
     have d3 : decide (b < 0) = false := decide_eq_false (by omega)
     have d4 : decide (b > 512) = true := decide_eq_true (by omega)
     have d4' : decide (512 < b) = true := decide_eq_true (by omega)
     rw [show wordsOk a b = false by simp [wordsOk, inB]; omega]
     simp only [if_true, Bool.false_eq_true, if_false]
     go_enter Tryz.func77, Tryz.ntmps77
     go_wp2
     go_ret2
     exact ⟨rfl, rfl⟩
  ·have d1 : decide (a < 0) = false := decide_eq_false (by omega)
   have d2 : decide (a > 6) = true := decide_eq_true (by omega)
   have d2' : decide (6 < a) = true := decide_eq_true (by omega)
   rw [show wordsOk a b = false by simp [wordsOk, inB]; omega]
   simp only [if_true, Bool.false_eq_true, if_false]
   go_enter Tryz.func77, Tryz.ntmps77
   go_wp2
   go_ret2
   exact ⟨rfl, rfl⟩

def regsS (c : Cal) : Bool := if c.op = 1 then rgOk c.r else if c.op = 7 then rgOk c.r else if c.op = 10 then rgOk c.r else if c.op = 8 then rgOk c.r && rgOk c.h else if c.op = 9 then rgOk c.h && rgOk c.v else if c.op = 11 then rgOk c.v else true
set_option maxRecDepth 100000 in
set_option maxHeartbeats 1000000 in
theorem regs_any (c : Cal) (w : World) (hc : CalOk c) : Calls Tryz.prog 94 #[c.vl] w fun r w' => r = .returned (.bool (regsS c)) ∧ Below w.heap.size w w' := by
 obtain ⟨co, cr, ch, cv, ca, cb, cc⟩ := c
 obtain ⟨r0, r1⟩ := hc.r
 obtain ⟨h0, h1⟩ := hc.h
 obtain ⟨v0, v1⟩ := hc.v
 dsimp only at r0 r1 h0 h1 v0 v1
 clear hc
 by_cases hX : co = 1 ∨ co = 7 ∨ co = 10 ∨ co = 8 ∨ co = 9 ∨ co = 11
 ·rcases hX with rfl | rfl | rfl | rfl | rfl | rfl
  ·go_enter Tryz.func94, Tryz.ntmps94
   go_wp2
   go_ret
   exact ⟨by simp [regsS, rgOk], by go_grown⟩
  ·go_enter Tryz.func94, Tryz.ntmps94
   go_wp2
   go_ret
   exact ⟨by simp [regsS, rgOk], by go_grown⟩
  ·go_enter Tryz.func94, Tryz.ntmps94
   go_wp2
   go_ret
   exact ⟨by simp [regsS, rgOk], by go_grown⟩
  ·cases dx : decide (cr < 4) <;> cases dy : decide (ch < 4)
   all_goals
    go_enter Tryz.func94, Tryz.ntmps94
    go_wp2
    go_ret
    exact ⟨by simp [regsS, rgOk, dx, dy], by go_grown⟩
  ·cases dx : decide (ch < 4) <;> cases dy : decide (cv < 4)
   all_goals
    go_enter Tryz.func94, Tryz.ntmps94
    go_wp2
    go_ret
    exact ⟨by simp [regsS, rgOk, dx, dy], by go_grown⟩
  ·go_enter Tryz.func94, Tryz.ntmps94
   go_wp2
   go_ret
   exact ⟨by simp [regsS, rgOk], by go_grown⟩
 ·have n1 : co ≠ 1 := by omega
  have n7 : co ≠ 7 := by omega
  have n10 : co ≠ 10 := by omega
  have n8 : co ≠ 8 := by omega
  have n9 : co ≠ 9 := by omega
  have n11 : co ≠ 11 := by omega
  have d1 : (co == 1) = false := beq_false_of_ne (by omega)
  have d7 : (co == 7) = false := beq_false_of_ne (by omega)
  have d10 : (co == 10) = false := beq_false_of_ne (by omega)
  have d8 : (co == 8) = false := beq_false_of_ne (by omega)
  have d9 : (co == 9) = false := beq_false_of_ne (by omega)
  have d11 : (co == 11) = false := beq_false_of_ne (by omega)
  have Hn := Lib.hid (show regsS ⟨co, cr, ch, cv, ca, cb, cc⟩ = true by simp [regsS, n1, n7, n10, n8, n9, n11])
  clear hX n1 n7 n10 n8 n9 n11
  rw [Hn.out]
  go_enter Tryz.func94, Tryz.ntmps94
  go_wp2
  go_ret
  exact ⟨by rfl, by go_grown⟩

set_option maxRecDepth 100000 in
set_option maxHeartbeats 1000000 in
theorem rscope_any (P : Pln) (c : Cal) (w : World) (s1 : P.s ≤ 8) : Calls Tryz.prog 95 #[P.val, c.vl] w fun r w' => r = .returned (.bool (inB c.a 1 (P.s - 1))) ∧ Below w.heap.size w w' := by
 obtain ⟨ps, pt, pi, ph⟩ := P
 obtain ⟨co, cr, ch, cv, ca, cb, cc⟩ := c
 dsimp only at s1 ⊢
 by_cases h1 : 1 ≤ ca
 ·by_cases h2 : ca < ps
  ·rw [show inB ca 1 (ps - 1) = true from inB_t (by omega)]
   go_enter Tryz.func95, Tryz.ntmps95
   go_wp2
   go_ret
   exact ⟨rfl, by go_grown⟩
  ·rw [show inB ca 1 (ps - 1) = false from inB_f (by omega)]
   go_enter Tryz.func95, Tryz.ntmps95
   go_wp2
   go_ret
   exact ⟨rfl, by go_grown⟩
 ·rw [show inB ca 1 (ps - 1) = false from inB_f (by omega)]
  go_enter Tryz.func95, Tryz.ntmps95
  go_wp2
  go_ret
  exact ⟨rfl, by go_grown⟩

set_option maxRecDepth 100000 in
set_option maxHeartbeats 2000000 in
theorem rcheck_any (P : Pln) (A : Option Addr) (c : Nat) (l : List Ent) (h : Int) (w : World) (hl : l.length ≤ 1048576) (he : Ents w A l) (h0 : 0 ≤ h) (h1 : h ≤ 18446744073709551615) :
  Calls Tryz.prog 87 #[P.val, .slice A l.length c, .int .u64 h] w fun r w' => r = .returned (.tuple #[.agg #[.int .i64 (checkR P.s l h).1.1, .int .i64 (checkR P.s l h).1.2.1, .int .i64 (checkR P.s l h).1.2.2], .int .i64 (checkR P.s l h).2]) ∧ Below w.heap.size w w' := by
 obtain ⟨ps, pt, pi, ph⟩ := P
 have He := Lib.hid he
 clear he
 have HU := Lib.hid (fun W => runpackR_any h W h0 h1)
 obtain ⟨us, ue, ua, uc, HR⟩ : ∃ us ue ua uc, Hid (unpackR h = ((us, ue, ua), uc)) := ⟨(unpackR h).1.1, _, _, _, Lib.hid rfl⟩
 have ub : 0 ≤ us ∧ us ≤ 255 := by
  have := HR.out
  unfold unpackR at this
  split at this
  ·rename_i hr
   injection this with t1 t2
   injection t1 with t1 t3
   rw [← t1]
   constructor <;> omega
  ·injection this with t1 t2
   injection t1 with t1 t3
   omega
 obtain ⟨u0, u1⟩ := ub
 have R1 := Lib.hid (show ((w.alloc (.cells #[.int .i64 ps, .int .i64 pt, .int .i64 pi, .int .i64 ph] 28)).alloc (.cells #[.int .i64 0, .int .i64 0, .int .i64 0] 70)).heap[w.heap.size]? = some (.cells #[.int .i64 ps, .int .i64 pt, .int .i64 pi, .int .i64 ph] 28 (0, 0)) from row_alloc (row_new w _ _))
 have R2 := Lib.hid (show ((w.alloc (.cells #[.int .i64 ps, .int .i64 pt, .int .i64 pi, .int .i64 ph] 28)).alloc (.cells #[.int .i64 0, .int .i64 0, .int .i64 0] 70)).heap[w.heap.size + 1]? = some (.cells #[.int .i64 0, .int .i64 0, .int .i64 0] 70 (0, 0)) from heap_at (by simp))
 have B0 := Lib.hid (show Below w.heap.size w ((w.alloc (.cells #[.int .i64 ps, .int .i64 pt, .int .i64 pi, .int .i64 ph] 28)).alloc (.cells #[.int .i64 0, .int .i64 0, .int .i64 0] 70)) by go_grown)
 by_cases hc : uc = 0
 ·subst hc
  by_cases hs : ps ≤ us
  ·skip
   have d1 : decide (us ≥ ps) = true := decide_eq_true hs
   have d2 : decide (ps ≤ us) = true := decide_eq_true hs
   have HC := Lib.hid (show checkR ps l h = ((0, 0, 0), 18) by unfold checkR; rw [HR.out]; simp only [not_true, if_false]; rw [if_pos hs])
   clear hs
   dsimp only
   rw [HC.out]
   go_enter Tryz.func87, Tryz.ntmps87
   go_wp2_with fail
   refine (HU.out _).mono ?_
   rintro r w1 ⟨rfl, hb⟩
   rw [HR.out]
   obtain ⟨a0, a1, a2, a3, _, _, _, _⟩ := box4 (row_below R1.out hb)
   have R2' := Lib.hid (row_below R2.out hb)
   obtain ⟨b0, b1, b2, f0, f1, f2⟩ := box3 R2'.out
   have B1 := below_only B0.out hb
   have z1 := lt_of_heap R2'.out
   have z0 : w.heap.size < w1.heap.size := by omega
   clear hb
   go_wp2_with fail
   obtain ⟨d0, d1', d2', _, _, _⟩ := box3 (row_alloc (o' := .cells #[.int .i64 us, .int .i64 ue, .int .i64 ua] 70) (row_three R2'.out (.int .i64 0) (.int .i64 0) (.int .i64 0)))
   refine bodyPost_ret (by simp [results, Tryz.results87, go_sem, d0, d1', d2']; rfl) rfl ?_
   exact ⟨rfl, by go_grown⟩

  ·skip
   have d1 : decide (us ≥ ps) = false := decide_eq_false hs
   have d2 : decide (ps ≤ us) = false := decide_eq_false hs
   cases hr : reach l us with
   | false =>
    have HC := Lib.hid (show checkR ps l h = ((0, 0, 0), 20) by unfold checkR; rw [HR.out]; simp only [not_true, if_false]; rw [if_neg hs, if_pos hr])
    clear hs
    dsimp only
    rw [HC.out]
    go_enter Tryz.func87, Tryz.ntmps87
    go_wp2_with fail
    refine (HU.out _).mono ?_
    rintro r w1 ⟨rfl, hb⟩
    rw [HR.out]
    obtain ⟨a0, a1, a2, a3, _, _, _, _⟩ := box4 (row_below R1.out hb)
    have R2' := Lib.hid (row_below R2.out hb)
    obtain ⟨b0, b1, b2, f0, f1, f2⟩ := box3 R2'.out
    have B1 := below_only B0.out hb
    have z1 := lt_of_heap R2'.out
    have z0 : w.heap.size < w1.heap.size := by omega
    clear hb
    go_wp2_with fail
    refine (rreach_b A c l _ _ (by omega) (Cells.alloc (Cells.below He.out B1) _)).mono ?_
    rintro r w3 ⟨rfl, hb3⟩
    rw [hr]
    have hX := row_below (row_new w1 #[.int .i64 us, .int .i64 ue, .int .i64 ua] 70) hb3
    obtain ⟨g0, g1, g2, _, _, _⟩ := box3 hX
    obtain ⟨b0', b1', b2', f0', f1', f2'⟩ := box3 (row_below (row_alloc (o' := .cells #[.int .i64 us, .int .i64 ue, .int .i64 ua] 70) R2'.out) hb3)
    have B3 := below_only (show Below w.heap.size w (w1.alloc (.cells #[.int .i64 us, .int .i64 ue, .int .i64 ua] 70)) by go_grown) hb3
    clear b0 b1 b2 f0 f1 f2 hX
    go_wp2_with fail
    obtain ⟨d0, d1', d2', _, _, _⟩ := box3 (row_three (row_below (row_alloc (o' := .cells #[.int .i64 us, .int .i64 ue, .int .i64 ua] 70) R2'.out) hb3) (.int .i64 0) (.int .i64 0) (.int .i64 0))
    refine bodyPost_ret (by simp [results, Tryz.results87, go_sem, d0, d1', d2']; rfl) rfl ?_
    exact ⟨rfl, by go_grown⟩

   | true =>
    have HC := Lib.hid (show checkR ps l h = ((us, ue, ua), 0) by unfold checkR; rw [HR.out]; simp only [not_true, if_false]; rw [if_neg hs, if_neg (by rw [hr]; simp)])
    clear hs
    dsimp only
    rw [HC.out]
    go_enter Tryz.func87, Tryz.ntmps87
    go_wp2_with fail
    refine (HU.out _).mono ?_
    rintro r w1 ⟨rfl, hb⟩
    rw [HR.out]
    obtain ⟨a0, a1, a2, a3, _, _, _, _⟩ := box4 (row_below R1.out hb)
    have R2' := Lib.hid (row_below R2.out hb)
    obtain ⟨b0, b1, b2, f0, f1, f2⟩ := box3 R2'.out
    have B1 := below_only B0.out hb
    have z1 := lt_of_heap R2'.out
    have z0 : w.heap.size < w1.heap.size := by omega
    clear hb
    go_wp2_with fail
    refine (rreach_b A c l _ _ (by omega) (Cells.alloc (Cells.below He.out B1) _)).mono ?_
    rintro r w3 ⟨rfl, hb3⟩
    rw [hr]
    have hX := row_below (row_new w1 #[.int .i64 us, .int .i64 ue, .int .i64 ua] 70) hb3
    obtain ⟨g0, g1, g2, _, _, _⟩ := box3 hX
    obtain ⟨b0', b1', b2', f0', f1', f2'⟩ := box3 (row_below (row_alloc (o' := .cells #[.int .i64 us, .int .i64 ue, .int .i64 ua] 70) R2'.out) hb3)
    have B3 := below_only (show Below w.heap.size w (w1.alloc (.cells #[.int .i64 us, .int .i64 ue, .int .i64 ua] 70)) by go_grown) hb3
    clear b0 b1 b2 f0 f1 f2 hX
    go_wp2_with fail
    obtain ⟨d0, d1', d2', _, _, _⟩ := box3 (row_three (row_below (row_alloc (o' := .cells #[.int .i64 us, .int .i64 ue, .int .i64 ua] 70) R2'.out) hb3) (.int .i64 us) (.int .i64 ue) (.int .i64 ua))
    refine bodyPost_ret (by simp [results, Tryz.results87, go_sem, d0, d1', d2']; rfl) rfl ?_
    exact ⟨rfl, by go_grown⟩

 ·skip
  have hc' : (uc != 0) = true := by simpa using hc
  have HC := Lib.hid (show checkR ps l h = ((0, 0, 0), 18) by unfold checkR; rw [HR.out]; simp only; rw [if_pos hc])
  clear hc
  dsimp only
  rw [HC.out]
  go_enter Tryz.func87, Tryz.ntmps87
  go_wp2_with fail
  refine (HU.out _).mono ?_
  rintro r w1 ⟨rfl, hb⟩
  rw [HR.out]
  obtain ⟨a0, a1, a2, a3, _, _, _, _⟩ := box4 (row_below R1.out hb)
  have R2' := Lib.hid (row_below R2.out hb)
  obtain ⟨b0, b1, b2, f0, f1, f2⟩ := box3 R2'.out
  have B1 := below_only B0.out hb
  have z1 := lt_of_heap R2'.out
  have z0 : w.heap.size < w1.heap.size := by omega
  clear hb
  go_wp2_with fail
  obtain ⟨d0, d1', d2', _, _, _⟩ := box3 (row_alloc (o' := .cells #[.int .i64 us, .int .i64 ue, .int .i64 ua] 70) (row_three R2'.out (.int .i64 0) (.int .i64 0) (.int .i64 0)))
  refine bodyPost_ret (by simp [results, Tryz.results87, go_sem, d0, d1', d2']; rfl) rfl ?_
  exact ⟨rfl, by go_grown⟩


def exitS (l : List Ent) : Int × Int := match l.getLast? with | none => (23, 0) | some (_, true) => (0, 15) | some (_, false) => (0, 0)
set_option maxRecDepth 100000 in
set_option maxHeartbeats 1000000 in
theorem rexit_any (A : Option Addr) (k : Nat) (l : List Ent) (w : World) (hl : l.length ≤ 1048576) (he : Ents w A l) :
  Calls Tryz.prog 97 #[.slice A l.length k] w fun r w' => r = .returned (.tuple #[.int .i64 (exitS l).1, .int .i64 (exitS l).2]) ∧ w' = w := by
 rcases List.eq_nil_or_concat l with rfl | ⟨l', ⟨s, x⟩, rfl⟩
 ·go_enter Tryz.func97, Tryz.ntmps97
  go_wp2
  go_ret2
  exact ⟨rfl, rfl⟩
 ·rw [show l'.concat (s, x) = l' ++ [(s, x)] by simp] at *
  obtain ⟨b, off, rfl, _, hc⟩ := he.at_ (by simp)
  obtain ⟨h0, h1⟩ := hc l'.length s x (by simp)
  have Ha := Lib.hid (show exitS (l' ++ [(s, x)]) = if x then (0, 15) else (0, 0) by unfold exitS; cases x <;> simp)
  clear hc he
  rw [List.length_append, List.length_singleton] at hl ⊢
  have d0 : ((l'.length : Int) + 1 == 0) = false := beq_false_of_ne (by omega)
  rw [Ha.out]
  cases x with
  | true =>
   go_enter Tryz.func97, Tryz.ntmps97
   go_wp2
   go_ret2
   exact ⟨rfl, rfl⟩
  | false =>
   go_enter Tryz.func97, Tryz.ntmps97
   go_wp2
   go_ret2
   exact ⟨rfl, rfl⟩

set_option maxRecDepth 100000 in
set_option maxHeartbeats 1000000 in
theorem rgoes4 (P : Pln) (A : Option Addr) (k : Nat) (l : List Ent) (cr ch cv ca cb cc h v : Int) (w : World) (hl : l.length ≤ 1048576) (he : Ents w A l) (s0 : 1 ≤ P.s) (s1 : P.s ≤ 8) :
  Calls Tryz.prog 96 #[P.val, .slice A l.length k, (Cal.mk 4 cr ch cv ca cb cc).vl] w fun r w' => r = .returned (.tuple #[.int .i64 (beginS P.s l ⟨4, cr, ch, cv, ca, cb, cc⟩ h v).1, .int .i64 (beginS P.s l ⟨4, cr, ch, cv, ca, cb, cc⟩ h v).2]) ∧ Below w.heap.size w w' := by
 obtain ⟨ps, pt, pi, ph⟩ := P
 dsimp only at s0 s1 ⊢
 have He := Lib.hid he
 clear he
 have R1 := Lib.hid (show ((w.alloc (.cells #[.int .i64 ps, .int .i64 pt, .int .i64 pi, .int .i64 ph] 28)).alloc (.cells #[.int .u8 4, .int .u8 cr, .int .u8 ch, .int .u8 cv, .int .i64 ca, .int .i64 cb, .int .i64 cc] 36)).heap[w.heap.size]? = some (.cells #[.int .i64 ps, .int .i64 pt, .int .i64 pi, .int .i64 ph] 28 (0, 0)) from row_alloc (row_new w _ _))
 have R2 := Lib.hid (show ((w.alloc (.cells #[.int .i64 ps, .int .i64 pt, .int .i64 pi, .int .i64 ph] 28)).alloc (.cells #[.int .u8 4, .int .u8 cr, .int .u8 ch, .int .u8 cv, .int .i64 ca, .int .i64 cb, .int .i64 cc] 36)).heap[w.heap.size + 1]? = some (.cells #[.int .u8 4, .int .u8 cr, .int .u8 ch, .int .u8 cv, .int .i64 ca, .int .i64 cb, .int .i64 cc] 36 (0, 0)) from row_at (by simp))
 have B0 := Lib.hid (show Below w.heap.size w ((w.alloc (.cells #[.int .i64 ps, .int .i64 pt, .int .i64 pi, .int .i64 ph] 28)).alloc (.cells #[.int .u8 4, .int .u8 cr, .int .u8 ch, .int .u8 cv, .int .i64 ca, .int .i64 cb, .int .i64 cc] 36)) by go_grown)
 by_cases h6 : 6 ≤ l.length
 ·have dl : decide ((l.length : Int) ≥ 6) = true := decide_eq_true (by omega)
  have dl' : decide (6 ≤ (l.length : Int)) = true := decide_eq_true (by omega)
  have H6 := Lib.hid h6
  clear h6
  cases hi : inB ca 1 (ps - 1) with
  | false =>
   have HV := Lib.hid (show beginS ps l ⟨4, cr, ch, cv, ca, cb, cc⟩ h v = (11, 0) by simp [beginS, hi])
   rw [HV.out]
   go_enter Tryz.func96, Tryz.ntmps96
   go_wp2_with fail
   refine (rscope_any ⟨ps, pt, pi, ph⟩ ⟨4, cr, ch, cv, ca, cb, cc⟩ _ s1).mono ?_
   rintro r w1 ⟨rfl, hb⟩
   dsimp only
   rw [hi]
   have R1a := Lib.hid (row_below R1.out hb)
   have R2a := Lib.hid (row_below R2.out hb)
   have Ba := Lib.hid (below_only B0.out hb)
   clear hb
   obtain ⟨pa0, pa1, pa2, pa3, _, _, _, _⟩ := box4 R1a.out
   obtain ⟨ca0, ca1, ca2, ca3, ca4, ca5, ca6⟩ := box7 R2a.out
   have za := lt_of_heap R2a.out
   go_wp2_with fail
   go_ret2
   exact ⟨rfl, Ba.out⟩
  | true =>
   have HV := Lib.hid (show beginS ps l ⟨4, cr, ch, cv, ca, cb, cc⟩ h v = (24, 0) by simp [beginS, hi, H6.out])
   rw [HV.out]
   go_enter Tryz.func96, Tryz.ntmps96
   go_wp2_with fail
   refine (rscope_any ⟨ps, pt, pi, ph⟩ ⟨4, cr, ch, cv, ca, cb, cc⟩ _ s1).mono ?_
   rintro r w1 ⟨rfl, hb⟩
   dsimp only
   rw [hi]
   have R1a := Lib.hid (row_below R1.out hb)
   have R2a := Lib.hid (row_below R2.out hb)
   have Ba := Lib.hid (below_only B0.out hb)
   clear hb
   obtain ⟨pa0, pa1, pa2, pa3, _, _, _, _⟩ := box4 R1a.out
   obtain ⟨ca0, ca1, ca2, ca3, ca4, ca5, ca6⟩ := box7 R2a.out
   have za := lt_of_heap R2a.out
   go_wp2_with fail
   go_ret2
   exact ⟨rfl, Ba.out⟩
 ·have dl : decide ((l.length : Int) ≥ 6) = false := decide_eq_false (by omega)
  have dl' : decide (6 ≤ (l.length : Int)) = false := decide_eq_false (by omega)
  have H6 := Lib.hid h6
  clear h6
  cases hi : inB ca 1 (ps - 1) with
  | false =>
   have HV := Lib.hid (show beginS ps l ⟨4, cr, ch, cv, ca, cb, cc⟩ h v = (11, 0) by simp [beginS, hi])
   rw [HV.out]
   go_enter Tryz.func96, Tryz.ntmps96
   go_wp2_with fail
   refine (rscope_any ⟨ps, pt, pi, ph⟩ ⟨4, cr, ch, cv, ca, cb, cc⟩ _ s1).mono ?_
   rintro r w1 ⟨rfl, hb⟩
   dsimp only
   rw [hi]
   have R1a := Lib.hid (row_below R1.out hb)
   have R2a := Lib.hid (row_below R2.out hb)
   have Ba := Lib.hid (below_only B0.out hb)
   clear hb
   obtain ⟨pa0, pa1, pa2, pa3, _, _, _, _⟩ := box4 R1a.out
   obtain ⟨ca0, ca1, ca2, ca3, ca4, ca5, ca6⟩ := box7 R2a.out
   have za := lt_of_heap R2a.out
   go_wp2_with fail
   go_ret2
   exact ⟨rfl, Ba.out⟩
  | true =>
   have HV := Lib.hid (show beginS ps l ⟨4, cr, ch, cv, ca, cb, cc⟩ h v = (0, 13) by simp [beginS, hi, H6.out])
   rw [HV.out]
   go_enter Tryz.func96, Tryz.ntmps96
   go_wp2_with fail
   refine (rscope_any ⟨ps, pt, pi, ph⟩ ⟨4, cr, ch, cv, ca, cb, cc⟩ _ s1).mono ?_
   rintro r w1 ⟨rfl, hb⟩
   dsimp only
   rw [hi]
   have R1a := Lib.hid (row_below R1.out hb)
   have R2a := Lib.hid (row_below R2.out hb)
   have Ba := Lib.hid (below_only B0.out hb)
   clear hb
   obtain ⟨pa0, pa1, pa2, pa3, _, _, _, _⟩ := box4 R1a.out
   obtain ⟨ca0, ca1, ca2, ca3, ca4, ca5, ca6⟩ := box7 R2a.out
   have za := lt_of_heap R2a.out
   go_wp2_with fail
   go_ret2
   exact ⟨rfl, Ba.out⟩

set_option maxRecDepth 100000 in
set_option maxHeartbeats 1000000 in
theorem rgoes6 (P : Pln) (A : Option Addr) (k : Nat) (l : List Ent) (cr ch cv ca cb cc h v : Int) (w : World) (hl : l.length ≤ 1048576) (he : Ents w A l) (s0 : 1 ≤ P.s) (s1 : P.s ≤ 8) :
  Calls Tryz.prog 96 #[P.val, .slice A l.length k, (Cal.mk 6 cr ch cv ca cb cc).vl] w fun r w' => r = .returned (.tuple #[.int .i64 (beginS P.s l ⟨6, cr, ch, cv, ca, cb, cc⟩ h v).1, .int .i64 (beginS P.s l ⟨6, cr, ch, cv, ca, cb, cc⟩ h v).2]) ∧ Below w.heap.size w w' := by
 obtain ⟨ps, pt, pi, ph⟩ := P
 dsimp only at s0 s1 ⊢
 have He := Lib.hid he
 clear he
 have R1 := Lib.hid (show ((w.alloc (.cells #[.int .i64 ps, .int .i64 pt, .int .i64 pi, .int .i64 ph] 28)).alloc (.cells #[.int .u8 6, .int .u8 cr, .int .u8 ch, .int .u8 cv, .int .i64 ca, .int .i64 cb, .int .i64 cc] 36)).heap[w.heap.size]? = some (.cells #[.int .i64 ps, .int .i64 pt, .int .i64 pi, .int .i64 ph] 28 (0, 0)) from row_alloc (row_new w _ _))
 have R2 := Lib.hid (show ((w.alloc (.cells #[.int .i64 ps, .int .i64 pt, .int .i64 pi, .int .i64 ph] 28)).alloc (.cells #[.int .u8 6, .int .u8 cr, .int .u8 ch, .int .u8 cv, .int .i64 ca, .int .i64 cb, .int .i64 cc] 36)).heap[w.heap.size + 1]? = some (.cells #[.int .u8 6, .int .u8 cr, .int .u8 ch, .int .u8 cv, .int .i64 ca, .int .i64 cb, .int .i64 cc] 36 (0, 0)) from row_at (by simp))
 have B0 := Lib.hid (show Below w.heap.size w ((w.alloc (.cells #[.int .i64 ps, .int .i64 pt, .int .i64 pi, .int .i64 ph] 28)).alloc (.cells #[.int .u8 6, .int .u8 cr, .int .u8 ch, .int .u8 cv, .int .i64 ca, .int .i64 cb, .int .i64 cc] 36)) by go_grown)
 cases hi : inB ca 1 (ps - 1) with
 | false =>
  by_cases h0 : ca = 0
  ·subst h0
   clear R1 R2 B0
   have R1 := Lib.hid (show ((w.alloc (.cells #[.int .i64 ps, .int .i64 pt, .int .i64 pi, .int .i64 ph] 28)).alloc (.cells #[.int .u8 6, .int .u8 cr, .int .u8 ch, .int .u8 cv, .int .i64 0, .int .i64 cb, .int .i64 cc] 36)).heap[w.heap.size]? = some (.cells #[.int .i64 ps, .int .i64 pt, .int .i64 pi, .int .i64 ph] 28 (0, 0)) from row_alloc (row_new w _ _))
   have R2 := Lib.hid (show ((w.alloc (.cells #[.int .i64 ps, .int .i64 pt, .int .i64 pi, .int .i64 ph] 28)).alloc (.cells #[.int .u8 6, .int .u8 cr, .int .u8 ch, .int .u8 cv, .int .i64 0, .int .i64 cb, .int .i64 cc] 36)).heap[w.heap.size + 1]? = some (.cells #[.int .u8 6, .int .u8 cr, .int .u8 ch, .int .u8 cv, .int .i64 0, .int .i64 cb, .int .i64 cc] 36 (0, 0)) from row_at (by simp))
   have B0 := Lib.hid (show Below w.heap.size w ((w.alloc (.cells #[.int .i64 ps, .int .i64 pt, .int .i64 pi, .int .i64 ph] 28)).alloc (.cells #[.int .u8 6, .int .u8 cr, .int .u8 ch, .int .u8 cv, .int .i64 0, .int .i64 cb, .int .i64 cc] 36)) by go_grown)
   have hj : inB 0 0 (ps - 1) = true := inB_t (by omega)
   cases hr : reach l 0 with
   | false =>
    have HV := Lib.hid (show beginS ps l ⟨6, cr, ch, cv, 0, cb, cc⟩ h v = (20, 0) by simp [beginS, hj, hr])
    rw [HV.out]
    go_enter Tryz.func96, Tryz.ntmps96
    go_wp2_with fail
    refine (rscope_any ⟨ps, pt, pi, ph⟩ ⟨6, cr, ch, cv, 0, cb, cc⟩ _ s1).mono ?_
    rintro r w1 ⟨rfl, hb⟩
    dsimp only
    rw [hi]
    have R1a := Lib.hid (row_below R1.out hb)
    have R2a := Lib.hid (row_below R2.out hb)
    have Ba := Lib.hid (below_only B0.out hb)
    clear hb
    obtain ⟨pa0, pa1, pa2, pa3, _, _, _, _⟩ := box4 R1a.out
    obtain ⟨ca0, ca1, ca2, ca3, ca4, ca5, ca6⟩ := box7 R2a.out
    have za := lt_of_heap R2a.out
    go_wp2_with fail
    refine (rreach_b A k l 0 _ (by omega) (Cells.below He.out Ba.out)).mono ?_
    rintro r w2 ⟨rfl, hb⟩
    rw [hr]
    clear pa0 pa1 pa2 pa3 ca0 ca1 ca2 ca3 ca4 ca5 ca6
    have R1b := Lib.hid (row_below R1a.out hb)
    have R2b := Lib.hid (row_below R2a.out hb)
    have Bb := Lib.hid (below_only Ba.out hb)
    clear hb
    obtain ⟨pb0, pb1, pb2, pb3, _, _, _, _⟩ := box4 R1b.out
    obtain ⟨cb0, cb1, cb2, cb3, cb4, cb5, cb6⟩ := box7 R2b.out
    have zb := lt_of_heap R2b.out
    go_wp2_with fail
    go_ret2
    exact ⟨rfl, Bb.out⟩
   | true =>
    by_cases h6 : 6 ≤ l.length
    ·have dl : decide ((l.length : Int) ≥ 6) = true := decide_eq_true (by omega)
     have dl' : decide (6 ≤ (l.length : Int)) = true := decide_eq_true (by omega)
     have H6 := Lib.hid h6
     clear h6
     have HV := Lib.hid (show beginS ps l ⟨6, cr, ch, cv, 0, cb, cc⟩ h v = (24, 0) by simp [beginS, hj, hr, H6.out])
     rw [HV.out]
     go_enter Tryz.func96, Tryz.ntmps96
     go_wp2_with fail
     refine (rscope_any ⟨ps, pt, pi, ph⟩ ⟨6, cr, ch, cv, 0, cb, cc⟩ _ s1).mono ?_
     rintro r w1 ⟨rfl, hb⟩
     dsimp only
     rw [hi]
     have R1a := Lib.hid (row_below R1.out hb)
     have R2a := Lib.hid (row_below R2.out hb)
     have Ba := Lib.hid (below_only B0.out hb)
     clear hb
     obtain ⟨pa0, pa1, pa2, pa3, _, _, _, _⟩ := box4 R1a.out
     obtain ⟨ca0, ca1, ca2, ca3, ca4, ca5, ca6⟩ := box7 R2a.out
     have za := lt_of_heap R2a.out
     go_wp2_with fail
     refine (rreach_b A k l 0 _ (by omega) (Cells.below He.out Ba.out)).mono ?_
     rintro r w2 ⟨rfl, hb⟩
     rw [hr]
     clear pa0 pa1 pa2 pa3 ca0 ca1 ca2 ca3 ca4 ca5 ca6
     have R1b := Lib.hid (row_below R1a.out hb)
     have R2b := Lib.hid (row_below R2a.out hb)
     have Bb := Lib.hid (below_only Ba.out hb)
     clear hb
     obtain ⟨pb0, pb1, pb2, pb3, _, _, _, _⟩ := box4 R1b.out
     obtain ⟨cb0, cb1, cb2, cb3, cb4, cb5, cb6⟩ := box7 R2b.out
     have zb := lt_of_heap R2b.out
     go_wp2_with fail
     go_ret2
     exact ⟨rfl, Bb.out⟩
    ·have dl : decide ((l.length : Int) ≥ 6) = false := decide_eq_false (by omega)
     have dl' : decide (6 ≤ (l.length : Int)) = false := decide_eq_false (by omega)
     have H6 := Lib.hid h6
     clear h6
     have HV := Lib.hid (show beginS ps l ⟨6, cr, ch, cv, 0, cb, cc⟩ h v = (0, 0) by simp [beginS, hj, hr, H6.out])
     rw [HV.out]
     go_enter Tryz.func96, Tryz.ntmps96
     go_wp2_with fail
     refine (rscope_any ⟨ps, pt, pi, ph⟩ ⟨6, cr, ch, cv, 0, cb, cc⟩ _ s1).mono ?_
     rintro r w1 ⟨rfl, hb⟩
     dsimp only
     rw [hi]
     have R1a := Lib.hid (row_below R1.out hb)
     have R2a := Lib.hid (row_below R2.out hb)
     have Ba := Lib.hid (below_only B0.out hb)
     clear hb
     obtain ⟨pa0, pa1, pa2, pa3, _, _, _, _⟩ := box4 R1a.out
     obtain ⟨ca0, ca1, ca2, ca3, ca4, ca5, ca6⟩ := box7 R2a.out
     have za := lt_of_heap R2a.out
     go_wp2_with fail
     refine (rreach_b A k l 0 _ (by omega) (Cells.below He.out Ba.out)).mono ?_
     rintro r w2 ⟨rfl, hb⟩
     rw [hr]
     clear pa0 pa1 pa2 pa3 ca0 ca1 ca2 ca3 ca4 ca5 ca6
     have R1b := Lib.hid (row_below R1a.out hb)
     have R2b := Lib.hid (row_below R2a.out hb)
     have Bb := Lib.hid (below_only Ba.out hb)
     clear hb
     obtain ⟨pb0, pb1, pb2, pb3, _, _, _, _⟩ := box4 R1b.out
     obtain ⟨cb0, cb1, cb2, cb3, cb4, cb5, cb6⟩ := box7 R2b.out
     have zb := lt_of_heap R2b.out
     go_wp2_with fail
     go_ret2
     exact ⟨rfl, Bb.out⟩
  ·have hj : inB ca 0 (ps - 1) = false := inB_f (by have h9 : ¬ (1 ≤ ca ∧ ca ≤ ps - 1) := of_decide_eq_false hi; omega)
   have hne : (ca != 0) = true := by simpa using h0
   clear h0
   have HV := Lib.hid (show beginS ps l ⟨6, cr, ch, cv, ca, cb, cc⟩ h v = (11, 0) by simp [beginS, hj])
   rw [HV.out]
   go_enter Tryz.func96, Tryz.ntmps96
   go_wp2_with fail
   refine (rscope_any ⟨ps, pt, pi, ph⟩ ⟨6, cr, ch, cv, ca, cb, cc⟩ _ s1).mono ?_
   rintro r w1 ⟨rfl, hb⟩
   dsimp only
   rw [hi]
   have R1a := Lib.hid (row_below R1.out hb)
   have R2a := Lib.hid (row_below R2.out hb)
   have Ba := Lib.hid (below_only B0.out hb)
   clear hb
   obtain ⟨pa0, pa1, pa2, pa3, _, _, _, _⟩ := box4 R1a.out
   obtain ⟨ca0, ca1, ca2, ca3, ca4, ca5, ca6⟩ := box7 R2a.out
   have za := lt_of_heap R2a.out
   go_wp2_with fail
   go_ret2
   exact ⟨rfl, Ba.out⟩
 | true =>
  have hj : inB ca 0 (ps - 1) = true := inB_t (by have h9 : 1 ≤ ca ∧ ca ≤ ps - 1 := of_decide_eq_true hi; omega)
  cases hr : reach l ca with
  | false =>
   have HV := Lib.hid (show beginS ps l ⟨6, cr, ch, cv, ca, cb, cc⟩ h v = (20, 0) by simp [beginS, hj, hr])
   rw [HV.out]
   go_enter Tryz.func96, Tryz.ntmps96
   go_wp2_with fail
   refine (rscope_any ⟨ps, pt, pi, ph⟩ ⟨6, cr, ch, cv, ca, cb, cc⟩ _ s1).mono ?_
   rintro r w1 ⟨rfl, hb⟩
   dsimp only
   rw [hi]
   have R1a := Lib.hid (row_below R1.out hb)
   have R2a := Lib.hid (row_below R2.out hb)
   have Ba := Lib.hid (below_only B0.out hb)
   clear hb
   obtain ⟨pa0, pa1, pa2, pa3, _, _, _, _⟩ := box4 R1a.out
   obtain ⟨ca0, ca1, ca2, ca3, ca4, ca5, ca6⟩ := box7 R2a.out
   have za := lt_of_heap R2a.out
   go_wp2_with fail
   refine (rreach_b A k l ca _ (by omega) (Cells.below He.out Ba.out)).mono ?_
   rintro r w2 ⟨rfl, hb⟩
   rw [hr]
   clear pa0 pa1 pa2 pa3 ca0 ca1 ca2 ca3 ca4 ca5 ca6
   have R1b := Lib.hid (row_below R1a.out hb)
   have R2b := Lib.hid (row_below R2a.out hb)
   have Bb := Lib.hid (below_only Ba.out hb)
   clear hb
   obtain ⟨pb0, pb1, pb2, pb3, _, _, _, _⟩ := box4 R1b.out
   obtain ⟨cb0, cb1, cb2, cb3, cb4, cb5, cb6⟩ := box7 R2b.out
   have zb := lt_of_heap R2b.out
   go_wp2_with fail
   go_ret2
   exact ⟨rfl, Bb.out⟩
  | true =>
   by_cases h6 : 6 ≤ l.length
   ·have dl : decide ((l.length : Int) ≥ 6) = true := decide_eq_true (by omega)
    have dl' : decide (6 ≤ (l.length : Int)) = true := decide_eq_true (by omega)
    have H6 := Lib.hid h6
    clear h6
    have HV := Lib.hid (show beginS ps l ⟨6, cr, ch, cv, ca, cb, cc⟩ h v = (24, 0) by simp [beginS, hj, hr, H6.out])
    rw [HV.out]
    go_enter Tryz.func96, Tryz.ntmps96
    go_wp2_with fail
    refine (rscope_any ⟨ps, pt, pi, ph⟩ ⟨6, cr, ch, cv, ca, cb, cc⟩ _ s1).mono ?_
    rintro r w1 ⟨rfl, hb⟩
    dsimp only
    rw [hi]
    have R1a := Lib.hid (row_below R1.out hb)
    have R2a := Lib.hid (row_below R2.out hb)
    have Ba := Lib.hid (below_only B0.out hb)
    clear hb
    obtain ⟨pa0, pa1, pa2, pa3, _, _, _, _⟩ := box4 R1a.out
    obtain ⟨ca0, ca1, ca2, ca3, ca4, ca5, ca6⟩ := box7 R2a.out
    have za := lt_of_heap R2a.out
    go_wp2_with fail
    refine (rreach_b A k l ca _ (by omega) (Cells.below He.out Ba.out)).mono ?_
    rintro r w2 ⟨rfl, hb⟩
    rw [hr]
    clear pa0 pa1 pa2 pa3 ca0 ca1 ca2 ca3 ca4 ca5 ca6
    have R1b := Lib.hid (row_below R1a.out hb)
    have R2b := Lib.hid (row_below R2a.out hb)
    have Bb := Lib.hid (below_only Ba.out hb)
    clear hb
    obtain ⟨pb0, pb1, pb2, pb3, _, _, _, _⟩ := box4 R1b.out
    obtain ⟨cb0, cb1, cb2, cb3, cb4, cb5, cb6⟩ := box7 R2b.out
    have zb := lt_of_heap R2b.out
    go_wp2_with fail
    go_ret2
    exact ⟨rfl, Bb.out⟩
   ·have dl : decide ((l.length : Int) ≥ 6) = false := decide_eq_false (by omega)
    have dl' : decide (6 ≤ (l.length : Int)) = false := decide_eq_false (by omega)
    have H6 := Lib.hid h6
    clear h6
    have HV := Lib.hid (show beginS ps l ⟨6, cr, ch, cv, ca, cb, cc⟩ h v = (0, 0) by simp [beginS, hj, hr, H6.out])
    rw [HV.out]
    go_enter Tryz.func96, Tryz.ntmps96
    go_wp2_with fail
    refine (rscope_any ⟨ps, pt, pi, ph⟩ ⟨6, cr, ch, cv, ca, cb, cc⟩ _ s1).mono ?_
    rintro r w1 ⟨rfl, hb⟩
    dsimp only
    rw [hi]
    have R1a := Lib.hid (row_below R1.out hb)
    have R2a := Lib.hid (row_below R2.out hb)
    have Ba := Lib.hid (below_only B0.out hb)
    clear hb
    obtain ⟨pa0, pa1, pa2, pa3, _, _, _, _⟩ := box4 R1a.out
    obtain ⟨ca0, ca1, ca2, ca3, ca4, ca5, ca6⟩ := box7 R2a.out
    have za := lt_of_heap R2a.out
    go_wp2_with fail
    refine (rreach_b A k l ca _ (by omega) (Cells.below He.out Ba.out)).mono ?_
    rintro r w2 ⟨rfl, hb⟩
    rw [hr]
    clear pa0 pa1 pa2 pa3 ca0 ca1 ca2 ca3 ca4 ca5 ca6
    have R1b := Lib.hid (row_below R1a.out hb)
    have R2b := Lib.hid (row_below R2a.out hb)
    have Bb := Lib.hid (below_only Ba.out hb)
    clear hb
    obtain ⟨pb0, pb1, pb2, pb3, _, _, _, _⟩ := box4 R1b.out
    obtain ⟨cb0, cb1, cb2, cb3, cb4, cb5, cb6⟩ := box7 R2b.out
    have zb := lt_of_heap R2b.out
    go_wp2_with fail
    go_ret2
    exact ⟨rfl, Bb.out⟩

theorem below_alloc_below {w w' : World} (h : Below w.heap.size w w') {o : Obj} : Below w.heap.size w (w'.alloc o) := h.alloc h.size o
set_option maxRecDepth 100000 in
set_option maxHeartbeats 1000000 in
theorem rgate10 (P : Pln) (A : Option Addr) (k : Nat) (l : List Ent) (cr ch cv ca cb cc h v : Int) (w : World) (hl : l.length ≤ 1048576) (he : Ents w A l) (s0 : 1 ≤ P.s) (s1 : P.s ≤ 8) (hv : 0 ≤ v ∧ v ≤ 18446744073709551615) (hn : rgOk cr = true) :
  Calls Tryz.prog 98 #[P.val, .slice A l.length k, (Cal.mk 10 cr ch cv ca cb cc).vl, .int .u64 v] w fun r w' => r = .returned (.tuple #[.int .i64 (beginS P.s l ⟨10, cr, ch, cv, ca, cb, cc⟩ h v).1, .int .i64 (beginS P.s l ⟨10, cr, ch, cv, ca, cb, cc⟩ h v).2]) ∧ Below w.heap.size w w' := by
 obtain ⟨ps, pt, pi, ph⟩ := P
 dsimp only at s0 s1 ⊢
 have He := Lib.hid he
 clear he
 have R1 := Lib.hid (show ((w.alloc (.cells #[.int .i64 ps, .int .i64 pt, .int .i64 pi, .int .i64 ph] 28)).alloc (.cells #[.int .u8 10, .int .u8 cr, .int .u8 ch, .int .u8 cv, .int .i64 ca, .int .i64 cb, .int .i64 cc] 36)).heap[w.heap.size]? = some (.cells #[.int .i64 ps, .int .i64 pt, .int .i64 pi, .int .i64 ph] 28 (0, 0)) from row_alloc (row_new w _ _))
 have R2 := Lib.hid (show ((w.alloc (.cells #[.int .i64 ps, .int .i64 pt, .int .i64 pi, .int .i64 ph] 28)).alloc (.cells #[.int .u8 10, .int .u8 cr, .int .u8 ch, .int .u8 cv, .int .i64 ca, .int .i64 cb, .int .i64 cc] 36)).heap[w.heap.size + 1]? = some (.cells #[.int .u8 10, .int .u8 cr, .int .u8 ch, .int .u8 cv, .int .i64 ca, .int .i64 cb, .int .i64 cc] 36 (0, 0)) from row_at (by simp))
 have B0 := Lib.hid (show Below w.heap.size w ((w.alloc (.cells #[.int .i64 ps, .int .i64 pt, .int .i64 pi, .int .i64 ph] 28)).alloc (.cells #[.int .u8 10, .int .u8 cr, .int .u8 ch, .int .u8 cv, .int .i64 ca, .int .i64 cb, .int .i64 cc] 36)) by go_grown)
 cases hi : inB ca 1 (ps - 1) with
 | false =>
  have HV := Lib.hid (show beginS ps l ⟨10, cr, ch, cv, ca, cb, cc⟩ h v = (11, 0) by simp [beginS, hn, hi])
  rw [HV.out]
  go_enter Tryz.func98, Tryz.ntmps98
  go_wp2_with fail
  refine (rscope_any ⟨ps, pt, pi, ph⟩ ⟨10, cr, ch, cv, ca, cb, cc⟩ _ s1).mono ?_
  rintro r w1 ⟨rfl, hb⟩
  dsimp only
  rw [hi]
  have R1a := Lib.hid (row_below R1.out hb)
  have R2a := Lib.hid (row_below R2.out hb)
  have Ba := Lib.hid (below_only B0.out hb)
  clear hb
  obtain ⟨pa0, pa1, pa2, pa3, _, _, _, _⟩ := box4 R1a.out
  obtain ⟨ca0, ca1, ca2, ca3, ca4, ca5, ca6⟩ := box7 R2a.out
  have za := lt_of_heap R2a.out
  go_wp2_with fail
  go_ret2
  exact ⟨rfl, Ba.out⟩
 | true =>
  cases hr : reach l ca with
  | false =>
   have HV := Lib.hid (show beginS ps l ⟨10, cr, ch, cv, ca, cb, cc⟩ h v = (20, 0) by simp [beginS, hn, hi, hr])
   rw [HV.out]
   go_enter Tryz.func98, Tryz.ntmps98
   go_wp2_with fail
   refine (rscope_any ⟨ps, pt, pi, ph⟩ ⟨10, cr, ch, cv, ca, cb, cc⟩ _ s1).mono ?_
   rintro r w1 ⟨rfl, hb⟩
   dsimp only
   rw [hi]
   have R1a := Lib.hid (row_below R1.out hb)
   have R2a := Lib.hid (row_below R2.out hb)
   have Ba := Lib.hid (below_only B0.out hb)
   clear hb
   obtain ⟨pa0, pa1, pa2, pa3, _, _, _, _⟩ := box4 R1a.out
   obtain ⟨ca0, ca1, ca2, ca3, ca4, ca5, ca6⟩ := box7 R2a.out
   have za := lt_of_heap R2a.out
   go_wp2_with fail
   refine (rreach_b A k l ca _ (by omega) (Cells.below He.out Ba.out)).mono ?_
   rintro r w2 ⟨rfl, hb⟩
   rw [hr]
   clear pa0 pa1 pa2 pa3 ca0 ca1 ca2 ca3 ca4 ca5 ca6
   have R1b := Lib.hid (row_below R1a.out hb)
   have R2b := Lib.hid (row_below R2a.out hb)
   have Bb := Lib.hid (below_only Ba.out hb)
   clear hb
   obtain ⟨pb0, pb1, pb2, pb3, _, _, _, _⟩ := box4 R1b.out
   obtain ⟨cb0, cb1, cb2, cb3, cb4, cb5, cb6⟩ := box7 R2b.out
   have zb := lt_of_heap R2b.out
   go_wp2_with fail
   go_ret2
   exact ⟨rfl, Bb.out⟩
  | true =>
   have HV := Lib.hid (show beginS ps l ⟨10, cr, ch, cv, ca, cb, cc⟩ h v = (0, 11) by simp [beginS, hn, hi, hr])
   rw [HV.out]
   go_enter Tryz.func98, Tryz.ntmps98
   go_wp2_with fail
   refine (rscope_any ⟨ps, pt, pi, ph⟩ ⟨10, cr, ch, cv, ca, cb, cc⟩ _ s1).mono ?_
   rintro r w1 ⟨rfl, hb⟩
   dsimp only
   rw [hi]
   have R1a := Lib.hid (row_below R1.out hb)
   have R2a := Lib.hid (row_below R2.out hb)
   have Ba := Lib.hid (below_only B0.out hb)
   clear hb
   obtain ⟨pa0, pa1, pa2, pa3, _, _, _, _⟩ := box4 R1a.out
   obtain ⟨ca0, ca1, ca2, ca3, ca4, ca5, ca6⟩ := box7 R2a.out
   have za := lt_of_heap R2a.out
   go_wp2_with fail
   refine (rreach_b A k l ca _ (by omega) (Cells.below He.out Ba.out)).mono ?_
   rintro r w2 ⟨rfl, hb⟩
   rw [hr]
   clear pa0 pa1 pa2 pa3 ca0 ca1 ca2 ca3 ca4 ca5 ca6
   have R1b := Lib.hid (row_below R1a.out hb)
   have R2b := Lib.hid (row_below R2a.out hb)
   have Bb := Lib.hid (below_only Ba.out hb)
   clear hb
   obtain ⟨pb0, pb1, pb2, pb3, _, _, _, _⟩ := box4 R1b.out
   obtain ⟨cb0, cb1, cb2, cb3, cb4, cb5, cb6⟩ := box7 R2b.out
   have zb := lt_of_heap R2b.out
   go_wp2_with fail
   go_ret2
   exact ⟨rfl, Bb.out⟩

set_option maxRecDepth 100000 in
set_option maxHeartbeats 1000000 in
theorem rgate11 (P : Pln) (A : Option Addr) (k : Nat) (l : List Ent) (cr ch cv ca cb cc h v : Int) (w : World) (hl : l.length ≤ 1048576) (he : Ents w A l) (s0 : 1 ≤ P.s) (s1 : P.s ≤ 8) (hv : 0 ≤ v ∧ v ≤ 18446744073709551615) (hn : rgOk cv = true) :
  Calls Tryz.prog 98 #[P.val, .slice A l.length k, (Cal.mk 11 cr ch cv ca cb cc).vl, .int .u64 v] w fun r w' => r = .returned (.tuple #[.int .i64 (beginS P.s l ⟨11, cr, ch, cv, ca, cb, cc⟩ h v).1, .int .i64 (beginS P.s l ⟨11, cr, ch, cv, ca, cb, cc⟩ h v).2]) ∧ Below w.heap.size w w' := by
 obtain ⟨ps, pt, pi, ph⟩ := P
 dsimp only at s0 s1 ⊢
 have He := Lib.hid he
 clear he
 have R1 := Lib.hid (show ((w.alloc (.cells #[.int .i64 ps, .int .i64 pt, .int .i64 pi, .int .i64 ph] 28)).alloc (.cells #[.int .u8 11, .int .u8 cr, .int .u8 ch, .int .u8 cv, .int .i64 ca, .int .i64 cb, .int .i64 cc] 36)).heap[w.heap.size]? = some (.cells #[.int .i64 ps, .int .i64 pt, .int .i64 pi, .int .i64 ph] 28 (0, 0)) from row_alloc (row_new w _ _))
 have R2 := Lib.hid (show ((w.alloc (.cells #[.int .i64 ps, .int .i64 pt, .int .i64 pi, .int .i64 ph] 28)).alloc (.cells #[.int .u8 11, .int .u8 cr, .int .u8 ch, .int .u8 cv, .int .i64 ca, .int .i64 cb, .int .i64 cc] 36)).heap[w.heap.size + 1]? = some (.cells #[.int .u8 11, .int .u8 cr, .int .u8 ch, .int .u8 cv, .int .i64 ca, .int .i64 cb, .int .i64 cc] 36 (0, 0)) from row_at (by simp))
 have B0 := Lib.hid (show Below w.heap.size w ((w.alloc (.cells #[.int .i64 ps, .int .i64 pt, .int .i64 pi, .int .i64 ph] 28)).alloc (.cells #[.int .u8 11, .int .u8 cr, .int .u8 ch, .int .u8 cv, .int .i64 ca, .int .i64 cb, .int .i64 cc] 36)) by go_grown)
 cases hi : inB ca 1 (ps - 1) with
 | false =>
  have HV := Lib.hid (show beginS ps l ⟨11, cr, ch, cv, ca, cb, cc⟩ h v = (11, 0) by simp [beginS, hn, hi])
  rw [HV.out]
  go_enter Tryz.func98, Tryz.ntmps98
  go_wp2_with fail
  refine (rscope_any ⟨ps, pt, pi, ph⟩ ⟨11, cr, ch, cv, ca, cb, cc⟩ _ s1).mono ?_
  rintro r w1 ⟨rfl, hb⟩
  dsimp only
  rw [hi]
  have R1a := Lib.hid (row_below R1.out hb)
  have R2a := Lib.hid (row_below R2.out hb)
  have Ba := Lib.hid (below_only B0.out hb)
  clear hb
  obtain ⟨pa0, pa1, pa2, pa3, _, _, _, _⟩ := box4 R1a.out
  obtain ⟨ca0, ca1, ca2, ca3, ca4, ca5, ca6⟩ := box7 R2a.out
  have za := lt_of_heap R2a.out
  go_wp2_with fail
  go_ret2
  exact ⟨rfl, Ba.out⟩
 | true =>
  cases hr : reach l ca with
  | false =>
   have HV := Lib.hid (show beginS ps l ⟨11, cr, ch, cv, ca, cb, cc⟩ h v = (20, 0) by simp [beginS, hn, hi, hr])
   rw [HV.out]
   go_enter Tryz.func98, Tryz.ntmps98
   go_wp2_with fail
   refine (rscope_any ⟨ps, pt, pi, ph⟩ ⟨11, cr, ch, cv, ca, cb, cc⟩ _ s1).mono ?_
   rintro r w1 ⟨rfl, hb⟩
   dsimp only
   rw [hi]
   have R1a := Lib.hid (row_below R1.out hb)
   have R2a := Lib.hid (row_below R2.out hb)
   have Ba := Lib.hid (below_only B0.out hb)
   clear hb
   obtain ⟨pa0, pa1, pa2, pa3, _, _, _, _⟩ := box4 R1a.out
   obtain ⟨ca0, ca1, ca2, ca3, ca4, ca5, ca6⟩ := box7 R2a.out
   have za := lt_of_heap R2a.out
   go_wp2_with fail
   refine (rreach_b A k l ca _ (by omega) (Cells.below He.out Ba.out)).mono ?_
   rintro r w2 ⟨rfl, hb⟩
   rw [hr]
   clear pa0 pa1 pa2 pa3 ca0 ca1 ca2 ca3 ca4 ca5 ca6
   have R1b := Lib.hid (row_below R1a.out hb)
   have R2b := Lib.hid (row_below R2a.out hb)
   have Bb := Lib.hid (below_only Ba.out hb)
   clear hb
   obtain ⟨pb0, pb1, pb2, pb3, _, _, _, _⟩ := box4 R1b.out
   obtain ⟨cb0, cb1, cb2, cb3, cb4, cb5, cb6⟩ := box7 R2b.out
   have zb := lt_of_heap R2b.out
   go_wp2_with fail
   go_ret2
   exact ⟨rfl, Bb.out⟩
  | true =>
   by_cases hv0 : v = 0
   ·subst hv0
    have HV := Lib.hid (show beginS ps l ⟨11, cr, ch, cv, ca, cb, cc⟩ h 0 = (0, 12) by simp [beginS, hn, hi, hr])
    rw [HV.out]
    go_enter Tryz.func98, Tryz.ntmps98
    go_wp2_with fail
    refine (rscope_any ⟨ps, pt, pi, ph⟩ ⟨11, cr, ch, cv, ca, cb, cc⟩ _ s1).mono ?_
    rintro r w1 ⟨rfl, hb⟩
    dsimp only
    rw [hi]
    have R1a := Lib.hid (row_below R1.out hb)
    have R2a := Lib.hid (row_below R2.out hb)
    have Ba := Lib.hid (below_only B0.out hb)
    clear hb
    obtain ⟨pa0, pa1, pa2, pa3, _, _, _, _⟩ := box4 R1a.out
    obtain ⟨ca0, ca1, ca2, ca3, ca4, ca5, ca6⟩ := box7 R2a.out
    have za := lt_of_heap R2a.out
    go_wp2_with fail
    refine (rreach_b A k l ca _ (by omega) (Cells.below He.out Ba.out)).mono ?_
    rintro r w2 ⟨rfl, hb⟩
    rw [hr]
    clear pa0 pa1 pa2 pa3 ca0 ca1 ca2 ca3 ca4 ca5 ca6
    have R1b := Lib.hid (row_below R1a.out hb)
    have R2b := Lib.hid (row_below R2a.out hb)
    have Bb := Lib.hid (below_only Ba.out hb)
    clear hb
    obtain ⟨pb0, pb1, pb2, pb3, _, _, _, _⟩ := box4 R1b.out
    obtain ⟨cb0, cb1, cb2, cb3, cb4, cb5, cb6⟩ := box7 R2b.out
    have zb := lt_of_heap R2b.out
    go_wp2_with fail
    go_ret2
    exact ⟨rfl, Bb.out⟩
   ·have hv0' : (v == 0) = false := by simpa using hv0
    have Hv0 := Lib.hid hv0
    clear hv0
    obtain ⟨ck, Hck⟩ : ∃ x, Hid ((checkR ps l v).2 = x) := ⟨_, Lib.hid rfl⟩
    by_cases hc : ck = 0
    ·subst hc
     have HV := Lib.hid (show beginS ps l ⟨11, cr, ch, cv, ca, cb, cc⟩ h v = (0, 7) by simp [beginS, hn, hi, hr, Hv0.out, Hck.out])
     rw [HV.out]
     go_enter Tryz.func98, Tryz.ntmps98
     go_wp2_with fail
     refine (rscope_any ⟨ps, pt, pi, ph⟩ ⟨11, cr, ch, cv, ca, cb, cc⟩ _ s1).mono ?_
     rintro r w1 ⟨rfl, hb⟩
     dsimp only
     rw [hi]
     have R1a := Lib.hid (row_below R1.out hb)
     have R2a := Lib.hid (row_below R2.out hb)
     have Ba := Lib.hid (below_only B0.out hb)
     clear hb
     obtain ⟨pa0, pa1, pa2, pa3, _, _, _, _⟩ := box4 R1a.out
     obtain ⟨ca0, ca1, ca2, ca3, ca4, ca5, ca6⟩ := box7 R2a.out
     have za := lt_of_heap R2a.out
     go_wp2_with fail
     refine (rreach_b A k l ca _ (by omega) (Cells.below He.out Ba.out)).mono ?_
     rintro r w2 ⟨rfl, hb⟩
     rw [hr]
     clear pa0 pa1 pa2 pa3 ca0 ca1 ca2 ca3 ca4 ca5 ca6
     have R1b := Lib.hid (row_below R1a.out hb)
     have R2b := Lib.hid (row_below R2a.out hb)
     have Bb := Lib.hid (below_only Ba.out hb)
     clear hb
     obtain ⟨pb0, pb1, pb2, pb3, _, _, _, _⟩ := box4 R1b.out
     obtain ⟨cb0, cb1, cb2, cb3, cb4, cb5, cb6⟩ := box7 R2b.out
     have zb := lt_of_heap R2b.out
     go_wp2_with fail
     refine (rcheck_any ⟨ps, pt, pi, ph⟩ A k l v _ (by omega) (Cells.below He.out Bb.out) hv.1 hv.2).mono ?_
     rintro r w3 ⟨rfl, hb⟩
     dsimp only
     rw [Hck.out]
     clear pb0 pb1 pb2 pb3 cb0 cb1 cb2 cb3 cb4 cb5 cb6
     have R1c := Lib.hid (row_below R1b.out hb)
     have R2c := Lib.hid (row_below R2b.out hb)
     have Bc := Lib.hid (below_only Bb.out hb)
     clear hb
     obtain ⟨pc0, pc1, pc2, pc3, _, _, _, _⟩ := box4 R1c.out
     obtain ⟨cc0, cc1, cc2, cc3, cc4, cc5, cc6⟩ := box7 R2c.out
     have zc := lt_of_heap R2c.out
     go_wp2_with fail
     go_ret2
     exact ⟨rfl, below_alloc_below Bc.out⟩
    ·have hc' : (ck != 0) = true := by simpa using hc
     have Hc := Lib.hid hc
     clear hc
     have HV := Lib.hid (show beginS ps l ⟨11, cr, ch, cv, ca, cb, cc⟩ h v = (ck, 0) by simp [beginS, hn, hi, hr, Hv0.out, Hck.out, Hc.out])
     rw [HV.out]
     go_enter Tryz.func98, Tryz.ntmps98
     go_wp2_with fail
     refine (rscope_any ⟨ps, pt, pi, ph⟩ ⟨11, cr, ch, cv, ca, cb, cc⟩ _ s1).mono ?_
     rintro r w1 ⟨rfl, hb⟩
     dsimp only
     rw [hi]
     have R1a := Lib.hid (row_below R1.out hb)
     have R2a := Lib.hid (row_below R2.out hb)
     have Ba := Lib.hid (below_only B0.out hb)
     clear hb
     obtain ⟨pa0, pa1, pa2, pa3, _, _, _, _⟩ := box4 R1a.out
     obtain ⟨ca0, ca1, ca2, ca3, ca4, ca5, ca6⟩ := box7 R2a.out
     have za := lt_of_heap R2a.out
     go_wp2_with fail
     refine (rreach_b A k l ca _ (by omega) (Cells.below He.out Ba.out)).mono ?_
     rintro r w2 ⟨rfl, hb⟩
     rw [hr]
     clear pa0 pa1 pa2 pa3 ca0 ca1 ca2 ca3 ca4 ca5 ca6
     have R1b := Lib.hid (row_below R1a.out hb)
     have R2b := Lib.hid (row_below R2a.out hb)
     have Bb := Lib.hid (below_only Ba.out hb)
     clear hb
     obtain ⟨pb0, pb1, pb2, pb3, _, _, _, _⟩ := box4 R1b.out
     obtain ⟨cb0, cb1, cb2, cb3, cb4, cb5, cb6⟩ := box7 R2b.out
     have zb := lt_of_heap R2b.out
     go_wp2_with fail
     refine (rcheck_any ⟨ps, pt, pi, ph⟩ A k l v _ (by omega) (Cells.below He.out Bb.out) hv.1 hv.2).mono ?_
     rintro r w3 ⟨rfl, hb⟩
     dsimp only
     rw [Hck.out]
     clear pb0 pb1 pb2 pb3 cb0 cb1 cb2 cb3 cb4 cb5 cb6
     have R1c := Lib.hid (row_below R1b.out hb)
     have R2c := Lib.hid (row_below R2b.out hb)
     have Bc := Lib.hid (below_only Bb.out hb)
     clear hb
     obtain ⟨pc0, pc1, pc2, pc3, _, _, _, _⟩ := box4 R1c.out
     obtain ⟨cc0, cc1, cc2, cc3, cc4, cc5, cc6⟩ := box7 R2c.out
     have zc := lt_of_heap R2c.out
     go_wp2_with fail
     go_ret2
     exact ⟨rfl, below_alloc_below Bc.out⟩


end Go.Proofs.YtnimaajnlkbdaaaGreat
