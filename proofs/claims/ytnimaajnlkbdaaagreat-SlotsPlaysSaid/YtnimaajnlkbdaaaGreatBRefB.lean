/- The walk of the document's pc (layer 13), op by op. -/
import Derived.Test.YtnimaajnlkbdaaaGreatBRefA
namespace Go.Proofs.YtnimaajnlkbdaaaGreat
open Go.RowKit
set_option linter.unusedVariables false
set_option linter.unusedSimpArgs false
set_option maxRecDepth 100000 in
set_option maxHeartbeats 1000000 in
theorem rpc0 (P : Pln) (A : Option Addr) (k : Nat) (l : List Ent) (cr ch cv ca cb cc h v : Int) (w : World) (hl : l.length ≤ 1048576) (he : Ents w A l) (s0 : 1 ≤ P.s) (s1 : P.s ≤ 8) (hc : CalOk ⟨0, cr, ch, cv, ca, cb, cc⟩) (hh : 0 ≤ h ∧ h ≤ 18446744073709551615) (hv : 0 ≤ v ∧ v ≤ 18446744073709551615) :
  Calls Tryz.prog 69 #[P.val, .slice A l.length k, (Cal.mk 0 cr ch cv ca cb cc).vl, .int .u64 h, .int .u64 v] w fun r w' => r = .returned (.tuple #[.int .i64 (beginS P.s l ⟨0, cr, ch, cv, ca, cb, cc⟩ h v).1, .int .i64 (if (beginS P.s l ⟨0, cr, ch, cv, ca, cb, cc⟩ h v).1 = 0 then (beginS P.s l ⟨0, cr, ch, cv, ca, cb, cc⟩ h v).2 else 0)]) ∧ Below w.heap.size w w' := by
 obtain ⟨ps, pt, pi, ph⟩ := P
 dsimp only at s0 s1 ⊢
 have He := Lib.hid he
 have Hc := Lib.hid hc
 clear he hc
 have R1 := Lib.hid (show ((w.alloc (.cells #[.int .i64 ps, .int .i64 pt, .int .i64 pi, .int .i64 ph] 28)).alloc (.cells #[.int .u8 0, .int .u8 cr, .int .u8 ch, .int .u8 cv, .int .i64 ca, .int .i64 cb, .int .i64 cc] 36)).heap[w.heap.size]? = some (.cells #[.int .i64 ps, .int .i64 pt, .int .i64 pi, .int .i64 ph] 28 (0, 0)) from row_alloc (row_new w _ _))
 have R2 := Lib.hid (show ((w.alloc (.cells #[.int .i64 ps, .int .i64 pt, .int .i64 pi, .int .i64 ph] 28)).alloc (.cells #[.int .u8 0, .int .u8 cr, .int .u8 ch, .int .u8 cv, .int .i64 ca, .int .i64 cb, .int .i64 cc] 36)).heap[w.heap.size + 1]? = some (.cells #[.int .u8 0, .int .u8 cr, .int .u8 ch, .int .u8 cv, .int .i64 ca, .int .i64 cb, .int .i64 cc] 36 (0, 0)) from row_at (by simp))
 have B0 := Lib.hid (show Below w.heap.size w ((w.alloc (.cells #[.int .i64 ps, .int .i64 pt, .int .i64 pi, .int .i64 ph] 28)).alloc (.cells #[.int .u8 0, .int .u8 cr, .int .u8 ch, .int .u8 cv, .int .i64 ca, .int .i64 cb, .int .i64 cc] 36)) by go_grown)
 have Hrg := Lib.hid (show regsS ⟨0, cr, ch, cv, ca, cb, cc⟩ = true by simp [regsS])
 have HV := Lib.hid (show beginS ps l ⟨0, cr, ch, cv, ca, cb, cc⟩ h v = (0, 0) by simp [beginS])
 rw [HV.out]
 simp only [reduceIte, Int.reduceEq]
 go_enter Tryz.func69, Tryz.ntmps69
 go_wp2_with fail
 refine (regs_any ⟨0, cr, ch, cv, ca, cb, cc⟩ _ Hc.out).mono ?_
 rintro r w1 ⟨rfl, hb⟩
 rw [Hrg.out]
 have R1a := Lib.hid (row_below R1.out hb)
 have R2a := Lib.hid (row_below R2.out hb)
 have Ba := Lib.hid (below_only B0.out hb)
 clear hb
 obtain ⟨pa0, pa1, pa2, pa3, _, _, _, _⟩ := box4 R1a.out
 obtain ⟨ca0, ca1, ca2, ca3, ca4, ca5, ca6⟩ := box7 R2a.out
 have za := lt_of_heap R2a.out
 go_wp2_with fail
 go_ret2
 exact ⟨rfl, Ba.out⟩

set_option maxRecDepth 100000 in
set_option maxHeartbeats 1000000 in
theorem rpc1 (P : Pln) (A : Option Addr) (k : Nat) (l : List Ent) (cr ch cv ca cb cc h v : Int) (w : World) (hl : l.length ≤ 1048576) (he : Ents w A l) (s0 : 1 ≤ P.s) (s1 : P.s ≤ 8) (hc : CalOk ⟨1, cr, ch, cv, ca, cb, cc⟩) (hh : 0 ≤ h ∧ h ≤ 18446744073709551615) (hv : 0 ≤ v ∧ v ≤ 18446744073709551615) :
  Calls Tryz.prog 69 #[P.val, .slice A l.length k, (Cal.mk 1 cr ch cv ca cb cc).vl, .int .u64 h, .int .u64 v] w fun r w' => r = .returned (.tuple #[.int .i64 (beginS P.s l ⟨1, cr, ch, cv, ca, cb, cc⟩ h v).1, .int .i64 (if (beginS P.s l ⟨1, cr, ch, cv, ca, cb, cc⟩ h v).1 = 0 then (beginS P.s l ⟨1, cr, ch, cv, ca, cb, cc⟩ h v).2 else 0)]) ∧ Below w.heap.size w w' := by
 obtain ⟨ps, pt, pi, ph⟩ := P
 dsimp only at s0 s1 ⊢
 have He := Lib.hid he
 have Hc := Lib.hid hc
 clear he hc
 have R1 := Lib.hid (show ((w.alloc (.cells #[.int .i64 ps, .int .i64 pt, .int .i64 pi, .int .i64 ph] 28)).alloc (.cells #[.int .u8 1, .int .u8 cr, .int .u8 ch, .int .u8 cv, .int .i64 ca, .int .i64 cb, .int .i64 cc] 36)).heap[w.heap.size]? = some (.cells #[.int .i64 ps, .int .i64 pt, .int .i64 pi, .int .i64 ph] 28 (0, 0)) from row_alloc (row_new w _ _))
 have R2 := Lib.hid (show ((w.alloc (.cells #[.int .i64 ps, .int .i64 pt, .int .i64 pi, .int .i64 ph] 28)).alloc (.cells #[.int .u8 1, .int .u8 cr, .int .u8 ch, .int .u8 cv, .int .i64 ca, .int .i64 cb, .int .i64 cc] 36)).heap[w.heap.size + 1]? = some (.cells #[.int .u8 1, .int .u8 cr, .int .u8 ch, .int .u8 cv, .int .i64 ca, .int .i64 cb, .int .i64 cc] 36 (0, 0)) from row_at (by simp))
 have B0 := Lib.hid (show Below w.heap.size w ((w.alloc (.cells #[.int .i64 ps, .int .i64 pt, .int .i64 pi, .int .i64 ph] 28)).alloc (.cells #[.int .u8 1, .int .u8 cr, .int .u8 ch, .int .u8 cv, .int .i64 ca, .int .i64 cb, .int .i64 cc] 36)) by go_grown)
 cases hn : rgOk cr with
 | false =>
  have Hrg := Lib.hid (show regsS ⟨1, cr, ch, cv, ca, cb, cc⟩ = false by simp [regsS, hn])
  have HV := Lib.hid (show beginS ps l ⟨1, cr, ch, cv, ca, cb, cc⟩ h v = (1, 0) by simp [beginS, hn])
  rw [HV.out]
  simp only [reduceIte, Int.reduceEq]
  go_enter Tryz.func69, Tryz.ntmps69
  go_wp2_with fail
  refine (regs_any ⟨1, cr, ch, cv, ca, cb, cc⟩ _ Hc.out).mono ?_
  rintro r w1 ⟨rfl, hb⟩
  rw [Hrg.out]
  have R1a := Lib.hid (row_below R1.out hb)
  have R2a := Lib.hid (row_below R2.out hb)
  have Ba := Lib.hid (below_only B0.out hb)
  clear hb
  obtain ⟨pa0, pa1, pa2, pa3, _, _, _, _⟩ := box4 R1a.out
  obtain ⟨ca0, ca1, ca2, ca3, ca4, ca5, ca6⟩ := box7 R2a.out
  have za := lt_of_heap R2a.out
  go_wp2_with fail
  go_ret2
  exact ⟨rfl, Ba.out⟩
 | true =>
  have Hrg := Lib.hid (show regsS ⟨1, cr, ch, cv, ca, cb, cc⟩ = true by simp [regsS, hn])
  have HV := Lib.hid (show beginS ps l ⟨1, cr, ch, cv, ca, cb, cc⟩ h v = (0, 0) by simp [beginS, hn])
  rw [HV.out]
  simp only [reduceIte, Int.reduceEq]
  go_enter Tryz.func69, Tryz.ntmps69
  go_wp2_with fail
  refine (regs_any ⟨1, cr, ch, cv, ca, cb, cc⟩ _ Hc.out).mono ?_
  rintro r w1 ⟨rfl, hb⟩
  rw [Hrg.out]
  have R1a := Lib.hid (row_below R1.out hb)
  have R2a := Lib.hid (row_below R2.out hb)
  have Ba := Lib.hid (below_only B0.out hb)
  clear hb
  obtain ⟨pa0, pa1, pa2, pa3, _, _, _, _⟩ := box4 R1a.out
  obtain ⟨ca0, ca1, ca2, ca3, ca4, ca5, ca6⟩ := box7 R2a.out
  have za := lt_of_heap R2a.out
  go_wp2_with fail
  go_ret2
  exact ⟨rfl, Ba.out⟩

set_option maxRecDepth 100000 in
set_option maxHeartbeats 1000000 in
theorem rpc2 (P : Pln) (A : Option Addr) (k : Nat) (l : List Ent) (cr ch cv ca cb cc h v : Int) (w : World) (hl : l.length ≤ 1048576) (he : Ents w A l) (s0 : 1 ≤ P.s) (s1 : P.s ≤ 8) (hc : CalOk ⟨2, cr, ch, cv, ca, cb, cc⟩) (hh : 0 ≤ h ∧ h ≤ 18446744073709551615) (hv : 0 ≤ v ∧ v ≤ 18446744073709551615) :
  Calls Tryz.prog 69 #[P.val, .slice A l.length k, (Cal.mk 2 cr ch cv ca cb cc).vl, .int .u64 h, .int .u64 v] w fun r w' => r = .returned (.tuple #[.int .i64 (beginS P.s l ⟨2, cr, ch, cv, ca, cb, cc⟩ h v).1, .int .i64 (if (beginS P.s l ⟨2, cr, ch, cv, ca, cb, cc⟩ h v).1 = 0 then (beginS P.s l ⟨2, cr, ch, cv, ca, cb, cc⟩ h v).2 else 0)]) ∧ Below w.heap.size w w' := by
 obtain ⟨ps, pt, pi, ph⟩ := P
 dsimp only at s0 s1 ⊢
 have He := Lib.hid he
 have Hc := Lib.hid hc
 clear he hc
 have R1 := Lib.hid (show ((w.alloc (.cells #[.int .i64 ps, .int .i64 pt, .int .i64 pi, .int .i64 ph] 28)).alloc (.cells #[.int .u8 2, .int .u8 cr, .int .u8 ch, .int .u8 cv, .int .i64 ca, .int .i64 cb, .int .i64 cc] 36)).heap[w.heap.size]? = some (.cells #[.int .i64 ps, .int .i64 pt, .int .i64 pi, .int .i64 ph] 28 (0, 0)) from row_alloc (row_new w _ _))
 have R2 := Lib.hid (show ((w.alloc (.cells #[.int .i64 ps, .int .i64 pt, .int .i64 pi, .int .i64 ph] 28)).alloc (.cells #[.int .u8 2, .int .u8 cr, .int .u8 ch, .int .u8 cv, .int .i64 ca, .int .i64 cb, .int .i64 cc] 36)).heap[w.heap.size + 1]? = some (.cells #[.int .u8 2, .int .u8 cr, .int .u8 ch, .int .u8 cv, .int .i64 ca, .int .i64 cb, .int .i64 cc] 36 (0, 0)) from row_at (by simp))
 have B0 := Lib.hid (show Below w.heap.size w ((w.alloc (.cells #[.int .i64 ps, .int .i64 pt, .int .i64 pi, .int .i64 ph] 28)).alloc (.cells #[.int .u8 2, .int .u8 cr, .int .u8 ch, .int .u8 cv, .int .i64 ca, .int .i64 cb, .int .i64 cc] 36)) by go_grown)
 by_cases h1 : ca < 1
 ·have d1 : decide (ca < 1) = true := decide_eq_true (by omega)
  have hi : inB ca 1 8192 = false := inB_f (by omega)
  have Hrg := Lib.hid (show regsS ⟨2, cr, ch, cv, ca, cb, cc⟩ = true by simp [regsS, hi])
  have HV := Lib.hid (show beginS ps l ⟨2, cr, ch, cv, ca, cb, cc⟩ h v = (1, 0) by simp [beginS, hi])
  rw [HV.out]
  simp only [reduceIte, Int.reduceEq]
  go_enter Tryz.func69, Tryz.ntmps69
  go_wp2_with fail
  refine (regs_any ⟨2, cr, ch, cv, ca, cb, cc⟩ _ Hc.out).mono ?_
  rintro r w1 ⟨rfl, hb⟩
  rw [Hrg.out]
  have R1a := Lib.hid (row_below R1.out hb)
  have R2a := Lib.hid (row_below R2.out hb)
  have Ba := Lib.hid (below_only B0.out hb)
  clear hb
  obtain ⟨pa0, pa1, pa2, pa3, _, _, _, _⟩ := box4 R1a.out
  obtain ⟨ca0, ca1, ca2, ca3, ca4, ca5, ca6⟩ := box7 R2a.out
  have za := lt_of_heap R2a.out
  go_wp2_with fail
  go_ret2
  exact ⟨rfl, Ba.out⟩
 ·by_cases h2 : ca ≤ 8192
  ·have d1 : decide (ca < 1) = false := decide_eq_false (by omega)
   have d2 : decide (ca > 8192) = false := decide_eq_false (by omega)
   have d3 : decide (8192 < ca) = false := decide_eq_false (by omega)
   have hi : inB ca 1 8192 = true := inB_t (by omega)
   have Hrg := Lib.hid (show regsS ⟨2, cr, ch, cv, ca, cb, cc⟩ = true by simp [regsS, hi])
   have HV := Lib.hid (show beginS ps l ⟨2, cr, ch, cv, ca, cb, cc⟩ h v = (0, 1) by simp [beginS, hi])
   rw [HV.out]
   simp only [reduceIte, Int.reduceEq]
   go_enter Tryz.func69, Tryz.ntmps69
   go_wp2_with fail
   refine (regs_any ⟨2, cr, ch, cv, ca, cb, cc⟩ _ Hc.out).mono ?_
   rintro r w1 ⟨rfl, hb⟩
   rw [Hrg.out]
   have R1a := Lib.hid (row_below R1.out hb)
   have R2a := Lib.hid (row_below R2.out hb)
   have Ba := Lib.hid (below_only B0.out hb)
   clear hb
   obtain ⟨pa0, pa1, pa2, pa3, _, _, _, _⟩ := box4 R1a.out
   obtain ⟨ca0, ca1, ca2, ca3, ca4, ca5, ca6⟩ := box7 R2a.out
   have za := lt_of_heap R2a.out
   go_wp2_with fail
   go_ret2
   exact ⟨rfl, Ba.out⟩
  ·have d1 : decide (ca < 1) = false := decide_eq_false (by omega)
   have d2 : decide (ca > 8192) = true := decide_eq_true (by omega)
   have d3 : decide (8192 < ca) = true := decide_eq_true (by omega)
   have hi : inB ca 1 8192 = false := inB_f (by omega)
   have Hrg := Lib.hid (show regsS ⟨2, cr, ch, cv, ca, cb, cc⟩ = true by simp [regsS, hi])
   have HV := Lib.hid (show beginS ps l ⟨2, cr, ch, cv, ca, cb, cc⟩ h v = (1, 0) by simp [beginS, hi])
   rw [HV.out]
   simp only [reduceIte, Int.reduceEq]
   go_enter Tryz.func69, Tryz.ntmps69
   go_wp2_with fail
   refine (regs_any ⟨2, cr, ch, cv, ca, cb, cc⟩ _ Hc.out).mono ?_
   rintro r w1 ⟨rfl, hb⟩
   rw [Hrg.out]
   have R1a := Lib.hid (row_below R1.out hb)
   have R2a := Lib.hid (row_below R2.out hb)
   have Ba := Lib.hid (below_only B0.out hb)
   clear hb
   obtain ⟨pa0, pa1, pa2, pa3, _, _, _, _⟩ := box4 R1a.out
   obtain ⟨ca0, ca1, ca2, ca3, ca4, ca5, ca6⟩ := box7 R2a.out
   have za := lt_of_heap R2a.out
   go_wp2_with fail
   go_ret2
   exact ⟨rfl, Ba.out⟩

set_option maxRecDepth 100000 in
set_option maxHeartbeats 1000000 in
theorem rpc3 (P : Pln) (A : Option Addr) (k : Nat) (l : List Ent) (cr ch cv ca cb cc h v : Int) (w : World) (hl : l.length ≤ 1048576) (he : Ents w A l) (s0 : 1 ≤ P.s) (s1 : P.s ≤ 8) (hc : CalOk ⟨3, cr, ch, cv, ca, cb, cc⟩) (hh : 0 ≤ h ∧ h ≤ 18446744073709551615) (hv : 0 ≤ v ∧ v ≤ 18446744073709551615) :
  Calls Tryz.prog 69 #[P.val, .slice A l.length k, (Cal.mk 3 cr ch cv ca cb cc).vl, .int .u64 h, .int .u64 v] w fun r w' => r = .returned (.tuple #[.int .i64 (beginS P.s l ⟨3, cr, ch, cv, ca, cb, cc⟩ h v).1, .int .i64 (if (beginS P.s l ⟨3, cr, ch, cv, ca, cb, cc⟩ h v).1 = 0 then (beginS P.s l ⟨3, cr, ch, cv, ca, cb, cc⟩ h v).2 else 0)]) ∧ Below w.heap.size w w' := by
 obtain ⟨ps, pt, pi, ph⟩ := P
 dsimp only at s0 s1 ⊢
 have He := Lib.hid he
 have Hc := Lib.hid hc
 clear he hc
 have R1 := Lib.hid (show ((w.alloc (.cells #[.int .i64 ps, .int .i64 pt, .int .i64 pi, .int .i64 ph] 28)).alloc (.cells #[.int .u8 3, .int .u8 cr, .int .u8 ch, .int .u8 cv, .int .i64 ca, .int .i64 cb, .int .i64 cc] 36)).heap[w.heap.size]? = some (.cells #[.int .i64 ps, .int .i64 pt, .int .i64 pi, .int .i64 ph] 28 (0, 0)) from row_alloc (row_new w _ _))
 have R2 := Lib.hid (show ((w.alloc (.cells #[.int .i64 ps, .int .i64 pt, .int .i64 pi, .int .i64 ph] 28)).alloc (.cells #[.int .u8 3, .int .u8 cr, .int .u8 ch, .int .u8 cv, .int .i64 ca, .int .i64 cb, .int .i64 cc] 36)).heap[w.heap.size + 1]? = some (.cells #[.int .u8 3, .int .u8 cr, .int .u8 ch, .int .u8 cv, .int .i64 ca, .int .i64 cb, .int .i64 cc] 36 (0, 0)) from row_at (by simp))
 have B0 := Lib.hid (show Below w.heap.size w ((w.alloc (.cells #[.int .i64 ps, .int .i64 pt, .int .i64 pi, .int .i64 ph] 28)).alloc (.cells #[.int .u8 3, .int .u8 cr, .int .u8 ch, .int .u8 cv, .int .i64 ca, .int .i64 cb, .int .i64 cc] 36)) by go_grown)
 cases hi : inB ca 1 (ps - 1) with
 | false =>
  have Hrg := Lib.hid (show regsS ⟨3, cr, ch, cv, ca, cb, cc⟩ = true by simp [regsS, hi])
  have HV := Lib.hid (show beginS ps l ⟨3, cr, ch, cv, ca, cb, cc⟩ h v = (11, 0) by simp [beginS, hi])
  rw [HV.out]
  simp only [reduceIte, Int.reduceEq]
  go_enter Tryz.func69, Tryz.ntmps69
  go_wp2_with fail
  refine (regs_any ⟨3, cr, ch, cv, ca, cb, cc⟩ _ Hc.out).mono ?_
  rintro r w1 ⟨rfl, hb⟩
  rw [Hrg.out]
  have R1a := Lib.hid (row_below R1.out hb)
  have R2a := Lib.hid (row_below R2.out hb)
  have Ba := Lib.hid (below_only B0.out hb)
  clear hb
  obtain ⟨pa0, pa1, pa2, pa3, _, _, _, _⟩ := box4 R1a.out
  obtain ⟨ca0, ca1, ca2, ca3, ca4, ca5, ca6⟩ := box7 R2a.out
  have za := lt_of_heap R2a.out
  go_wp2_with fail
  refine (rscope_any ⟨ps, pt, pi, ph⟩ ⟨3, cr, ch, cv, ca, cb, cc⟩ _ s1).mono ?_
  rintro r w2 ⟨rfl, hb⟩
  dsimp only
  rw [hi]
  clear pa0 pa1 pa2 pa3 ca0 ca1 ca2 ca3 ca4 ca5 ca6
  have R1b := Lib.hid (row_below R1a.out hb)
  have R2b := Lib.hid (row_below R2a.out hb)
  have Bb := Lib.hid (below_only Ba.out hb)
  clear hb
  obtain ⟨pb0, pb1, pb2, pb3, _, _, _, _⟩ := box4 R1b.out
  obtain ⟨cb0, cb1, cb2, cb3, cb4, cb5, cb6⟩ := box7 R2b.out
  have zb := lt_of_heap R2b.out
  go_wp2_with fail
  go_ret2
  exact ⟨rfl, Bb.out⟩
 | true =>
  have Hrg := Lib.hid (show regsS ⟨3, cr, ch, cv, ca, cb, cc⟩ = true by simp [regsS, hi])
  have HV := Lib.hid (show beginS ps l ⟨3, cr, ch, cv, ca, cb, cc⟩ h v = (0, 1) by simp [beginS, hi])
  rw [HV.out]
  simp only [reduceIte, Int.reduceEq]
  go_enter Tryz.func69, Tryz.ntmps69
  go_wp2_with fail
  refine (regs_any ⟨3, cr, ch, cv, ca, cb, cc⟩ _ Hc.out).mono ?_
  rintro r w1 ⟨rfl, hb⟩
  rw [Hrg.out]
  have R1a := Lib.hid (row_below R1.out hb)
  have R2a := Lib.hid (row_below R2.out hb)
  have Ba := Lib.hid (below_only B0.out hb)
  clear hb
  obtain ⟨pa0, pa1, pa2, pa3, _, _, _, _⟩ := box4 R1a.out
  obtain ⟨ca0, ca1, ca2, ca3, ca4, ca5, ca6⟩ := box7 R2a.out
  have za := lt_of_heap R2a.out
  go_wp2_with fail
  refine (rscope_any ⟨ps, pt, pi, ph⟩ ⟨3, cr, ch, cv, ca, cb, cc⟩ _ s1).mono ?_
  rintro r w2 ⟨rfl, hb⟩
  dsimp only
  rw [hi]
  clear pa0 pa1 pa2 pa3 ca0 ca1 ca2 ca3 ca4 ca5 ca6
  have R1b := Lib.hid (row_below R1a.out hb)
  have R2b := Lib.hid (row_below R2a.out hb)
  have Bb := Lib.hid (below_only Ba.out hb)
  clear hb
  obtain ⟨pb0, pb1, pb2, pb3, _, _, _, _⟩ := box4 R1b.out
  obtain ⟨cb0, cb1, cb2, cb3, cb4, cb5, cb6⟩ := box7 R2b.out
  have zb := lt_of_heap R2b.out
  go_wp2_with fail
  go_ret2
  exact ⟨rfl, Bb.out⟩

set_option maxRecDepth 100000 in
set_option maxHeartbeats 1000000 in
theorem rpc4 (P : Pln) (A : Option Addr) (k : Nat) (l : List Ent) (cr ch cv ca cb cc h v : Int) (w : World) (hl : l.length ≤ 1048576) (he : Ents w A l) (s0 : 1 ≤ P.s) (s1 : P.s ≤ 8) (hc : CalOk ⟨4, cr, ch, cv, ca, cb, cc⟩) (hh : 0 ≤ h ∧ h ≤ 18446744073709551615) (hv : 0 ≤ v ∧ v ≤ 18446744073709551615) :
  Calls Tryz.prog 69 #[P.val, .slice A l.length k, (Cal.mk 4 cr ch cv ca cb cc).vl, .int .u64 h, .int .u64 v] w fun r w' => r = .returned (.tuple #[.int .i64 (beginS P.s l ⟨4, cr, ch, cv, ca, cb, cc⟩ h v).1, .int .i64 (if (beginS P.s l ⟨4, cr, ch, cv, ca, cb, cc⟩ h v).1 = 0 then (beginS P.s l ⟨4, cr, ch, cv, ca, cb, cc⟩ h v).2 else 0)]) ∧ Below w.heap.size w w' := by
 obtain ⟨ps, pt, pi, ph⟩ := P
 dsimp only at s0 s1 ⊢
 have He := Lib.hid he
 have Hc := Lib.hid hc
 clear he hc
 have R1 := Lib.hid (show ((w.alloc (.cells #[.int .i64 ps, .int .i64 pt, .int .i64 pi, .int .i64 ph] 28)).alloc (.cells #[.int .u8 4, .int .u8 cr, .int .u8 ch, .int .u8 cv, .int .i64 ca, .int .i64 cb, .int .i64 cc] 36)).heap[w.heap.size]? = some (.cells #[.int .i64 ps, .int .i64 pt, .int .i64 pi, .int .i64 ph] 28 (0, 0)) from row_alloc (row_new w _ _))
 have R2 := Lib.hid (show ((w.alloc (.cells #[.int .i64 ps, .int .i64 pt, .int .i64 pi, .int .i64 ph] 28)).alloc (.cells #[.int .u8 4, .int .u8 cr, .int .u8 ch, .int .u8 cv, .int .i64 ca, .int .i64 cb, .int .i64 cc] 36)).heap[w.heap.size + 1]? = some (.cells #[.int .u8 4, .int .u8 cr, .int .u8 ch, .int .u8 cv, .int .i64 ca, .int .i64 cb, .int .i64 cc] 36 (0, 0)) from row_at (by simp))
 have B0 := Lib.hid (show Below w.heap.size w ((w.alloc (.cells #[.int .i64 ps, .int .i64 pt, .int .i64 pi, .int .i64 ph] 28)).alloc (.cells #[.int .u8 4, .int .u8 cr, .int .u8 ch, .int .u8 cv, .int .i64 ca, .int .i64 cb, .int .i64 cc] 36)) by go_grown)
 have Hrg := Lib.hid (show regsS ⟨4, cr, ch, cv, ca, cb, cc⟩ = true by simp [regsS])
 obtain ⟨x1, HX1⟩ : ∃ x, Hid ((beginS ps l ⟨4, cr, ch, cv, ca, cb, cc⟩ h v).1 = x) := ⟨_, Lib.hid rfl⟩
 obtain ⟨x2, HX2⟩ : ∃ x, Hid ((beginS ps l ⟨4, cr, ch, cv, ca, cb, cc⟩ h v).2 = x) := ⟨_, Lib.hid rfl⟩
 have HX3 := Lib.hid (show (if x1 = 0 then x2 else 0) = x2 by rw [← HX1.out, ← HX2.out]; cases hi : inB ca 1 (ps - 1) <;> by_cases h6 : 6 ≤ l.length <;> simp [beginS, hi, h6])
 rw [HX1.out, HX2.out, HX3.out]
 go_enter Tryz.func69, Tryz.ntmps69
 go_wp2_with fail
 refine (regs_any ⟨4, cr, ch, cv, ca, cb, cc⟩ _ Hc.out).mono ?_
 rintro r w1 ⟨rfl, hb⟩
 rw [Hrg.out]
 have R1a := Lib.hid (row_below R1.out hb)
 have R2a := Lib.hid (row_below R2.out hb)
 have Ba := Lib.hid (below_only B0.out hb)
 clear hb
 obtain ⟨pa0, pa1, pa2, pa3, _, _, _, _⟩ := box4 R1a.out
 obtain ⟨ca0, ca1, ca2, ca3, ca4, ca5, ca6⟩ := box7 R2a.out
 have za := lt_of_heap R2a.out
 go_wp2_with fail
 refine (rgoes4 ⟨ps, pt, pi, ph⟩ A k l cr ch cv ca cb cc h v _ hl (Cells.below He.out Ba.out) s0 s1).mono ?_
 rintro r w2 ⟨rfl, hb⟩
 dsimp only
 rw [HX1.out, HX2.out]
 clear pa0 pa1 pa2 pa3 ca0 ca1 ca2 ca3 ca4 ca5 ca6
 have Bb := Lib.hid (below_only Ba.out hb)
 clear hb
 go_wp2_with fail
 go_ret2
 exact ⟨rfl, Bb.out⟩

set_option maxRecDepth 100000 in
set_option maxHeartbeats 1000000 in
theorem rpc5 (P : Pln) (A : Option Addr) (k : Nat) (l : List Ent) (cr ch cv ca cb cc h v : Int) (w : World) (hl : l.length ≤ 1048576) (he : Ents w A l) (s0 : 1 ≤ P.s) (s1 : P.s ≤ 8) (hc : CalOk ⟨5, cr, ch, cv, ca, cb, cc⟩) (hh : 0 ≤ h ∧ h ≤ 18446744073709551615) (hv : 0 ≤ v ∧ v ≤ 18446744073709551615) :
  Calls Tryz.prog 69 #[P.val, .slice A l.length k, (Cal.mk 5 cr ch cv ca cb cc).vl, .int .u64 h, .int .u64 v] w fun r w' => r = .returned (.tuple #[.int .i64 (beginS P.s l ⟨5, cr, ch, cv, ca, cb, cc⟩ h v).1, .int .i64 (if (beginS P.s l ⟨5, cr, ch, cv, ca, cb, cc⟩ h v).1 = 0 then (beginS P.s l ⟨5, cr, ch, cv, ca, cb, cc⟩ h v).2 else 0)]) ∧ Below w.heap.size w w' := by
 obtain ⟨ps, pt, pi, ph⟩ := P
 dsimp only at s0 s1 ⊢
 have He := Lib.hid he
 have Hc := Lib.hid hc
 clear he hc
 have R1 := Lib.hid (show ((w.alloc (.cells #[.int .i64 ps, .int .i64 pt, .int .i64 pi, .int .i64 ph] 28)).alloc (.cells #[.int .u8 5, .int .u8 cr, .int .u8 ch, .int .u8 cv, .int .i64 ca, .int .i64 cb, .int .i64 cc] 36)).heap[w.heap.size]? = some (.cells #[.int .i64 ps, .int .i64 pt, .int .i64 pi, .int .i64 ph] 28 (0, 0)) from row_alloc (row_new w _ _))
 have R2 := Lib.hid (show ((w.alloc (.cells #[.int .i64 ps, .int .i64 pt, .int .i64 pi, .int .i64 ph] 28)).alloc (.cells #[.int .u8 5, .int .u8 cr, .int .u8 ch, .int .u8 cv, .int .i64 ca, .int .i64 cb, .int .i64 cc] 36)).heap[w.heap.size + 1]? = some (.cells #[.int .u8 5, .int .u8 cr, .int .u8 ch, .int .u8 cv, .int .i64 ca, .int .i64 cb, .int .i64 cc] 36 (0, 0)) from row_at (by simp))
 have B0 := Lib.hid (show Below w.heap.size w ((w.alloc (.cells #[.int .i64 ps, .int .i64 pt, .int .i64 pi, .int .i64 ph] 28)).alloc (.cells #[.int .u8 5, .int .u8 cr, .int .u8 ch, .int .u8 cv, .int .i64 ca, .int .i64 cb, .int .i64 cc] 36)) by go_grown)
 have Hrg := Lib.hid (show regsS ⟨5, cr, ch, cv, ca, cb, cc⟩ = true by simp [regsS])
 obtain ⟨x1, HX1⟩ : ∃ x, Hid ((exitS l).1 = x) := ⟨_, Lib.hid rfl⟩
 obtain ⟨x2, HX2⟩ : ∃ x, Hid ((exitS l).2 = x) := ⟨_, Lib.hid rfl⟩
 have HX0 := Lib.hid (show beginS ps l ⟨5, cr, ch, cv, ca, cb, cc⟩ h v = (x1, x2) by rw [← HX1.out, ← HX2.out]; rfl)
 have HX3 := Lib.hid (show (if x1 = 0 then x2 else 0) = x2 by rw [← HX1.out, ← HX2.out]; unfold exitS; (repeat' split) <;> simp_all)
 rw [HX0.out]
 dsimp only
 rw [HX3.out]
 go_enter Tryz.func69, Tryz.ntmps69
 go_wp2_with fail
 refine (regs_any ⟨5, cr, ch, cv, ca, cb, cc⟩ _ Hc.out).mono ?_
 rintro r w1 ⟨rfl, hb⟩
 rw [Hrg.out]
 have R1a := Lib.hid (row_below R1.out hb)
 have R2a := Lib.hid (row_below R2.out hb)
 have Ba := Lib.hid (below_only B0.out hb)
 clear hb
 obtain ⟨pa0, pa1, pa2, pa3, _, _, _, _⟩ := box4 R1a.out
 obtain ⟨ca0, ca1, ca2, ca3, ca4, ca5, ca6⟩ := box7 R2a.out
 have za := lt_of_heap R2a.out
 go_wp2_with fail
 refine (rexit_any A k l _ hl (Cells.below He.out Ba.out)).mono ?_
 rintro r w2 ⟨rfl, rfl⟩
 rw [HX1.out, HX2.out]
 go_wp2_with fail
 go_ret2
 exact ⟨rfl, Ba.out⟩

set_option maxRecDepth 100000 in
set_option maxHeartbeats 1000000 in
theorem rpc6 (P : Pln) (A : Option Addr) (k : Nat) (l : List Ent) (cr ch cv ca cb cc h v : Int) (w : World) (hl : l.length ≤ 1048576) (he : Ents w A l) (s0 : 1 ≤ P.s) (s1 : P.s ≤ 8) (hc : CalOk ⟨6, cr, ch, cv, ca, cb, cc⟩) (hh : 0 ≤ h ∧ h ≤ 18446744073709551615) (hv : 0 ≤ v ∧ v ≤ 18446744073709551615) :
  Calls Tryz.prog 69 #[P.val, .slice A l.length k, (Cal.mk 6 cr ch cv ca cb cc).vl, .int .u64 h, .int .u64 v] w fun r w' => r = .returned (.tuple #[.int .i64 (beginS P.s l ⟨6, cr, ch, cv, ca, cb, cc⟩ h v).1, .int .i64 (if (beginS P.s l ⟨6, cr, ch, cv, ca, cb, cc⟩ h v).1 = 0 then (beginS P.s l ⟨6, cr, ch, cv, ca, cb, cc⟩ h v).2 else 0)]) ∧ Below w.heap.size w w' := by
 obtain ⟨ps, pt, pi, ph⟩ := P
 dsimp only at s0 s1 ⊢
 have He := Lib.hid he
 have Hc := Lib.hid hc
 clear he hc
 have R1 := Lib.hid (show ((w.alloc (.cells #[.int .i64 ps, .int .i64 pt, .int .i64 pi, .int .i64 ph] 28)).alloc (.cells #[.int .u8 6, .int .u8 cr, .int .u8 ch, .int .u8 cv, .int .i64 ca, .int .i64 cb, .int .i64 cc] 36)).heap[w.heap.size]? = some (.cells #[.int .i64 ps, .int .i64 pt, .int .i64 pi, .int .i64 ph] 28 (0, 0)) from row_alloc (row_new w _ _))
 have R2 := Lib.hid (show ((w.alloc (.cells #[.int .i64 ps, .int .i64 pt, .int .i64 pi, .int .i64 ph] 28)).alloc (.cells #[.int .u8 6, .int .u8 cr, .int .u8 ch, .int .u8 cv, .int .i64 ca, .int .i64 cb, .int .i64 cc] 36)).heap[w.heap.size + 1]? = some (.cells #[.int .u8 6, .int .u8 cr, .int .u8 ch, .int .u8 cv, .int .i64 ca, .int .i64 cb, .int .i64 cc] 36 (0, 0)) from row_at (by simp))
 have B0 := Lib.hid (show Below w.heap.size w ((w.alloc (.cells #[.int .i64 ps, .int .i64 pt, .int .i64 pi, .int .i64 ph] 28)).alloc (.cells #[.int .u8 6, .int .u8 cr, .int .u8 ch, .int .u8 cv, .int .i64 ca, .int .i64 cb, .int .i64 cc] 36)) by go_grown)
 have Hrg := Lib.hid (show regsS ⟨6, cr, ch, cv, ca, cb, cc⟩ = true by simp [regsS])
 obtain ⟨x1, HX1⟩ : ∃ x, Hid ((beginS ps l ⟨6, cr, ch, cv, ca, cb, cc⟩ h v).1 = x) := ⟨_, Lib.hid rfl⟩
 obtain ⟨x2, HX2⟩ : ∃ x, Hid ((beginS ps l ⟨6, cr, ch, cv, ca, cb, cc⟩ h v).2 = x) := ⟨_, Lib.hid rfl⟩
 have HX3 := Lib.hid (show (if x1 = 0 then x2 else 0) = x2 by rw [← HX1.out, ← HX2.out]; cases hi : inB ca 0 (ps - 1) <;> cases hr : reach l ca <;> by_cases h6 : 6 ≤ l.length <;> simp [beginS, hi, hr, h6])
 rw [HX1.out, HX2.out, HX3.out]
 go_enter Tryz.func69, Tryz.ntmps69
 go_wp2_with fail
 refine (regs_any ⟨6, cr, ch, cv, ca, cb, cc⟩ _ Hc.out).mono ?_
 rintro r w1 ⟨rfl, hb⟩
 rw [Hrg.out]
 have R1a := Lib.hid (row_below R1.out hb)
 have R2a := Lib.hid (row_below R2.out hb)
 have Ba := Lib.hid (below_only B0.out hb)
 clear hb
 obtain ⟨pa0, pa1, pa2, pa3, _, _, _, _⟩ := box4 R1a.out
 obtain ⟨ca0, ca1, ca2, ca3, ca4, ca5, ca6⟩ := box7 R2a.out
 have za := lt_of_heap R2a.out
 go_wp2_with fail
 refine (rgoes6 ⟨ps, pt, pi, ph⟩ A k l cr ch cv ca cb cc h v _ hl (Cells.below He.out Ba.out) s0 s1).mono ?_
 rintro r w2 ⟨rfl, hb⟩
 dsimp only
 rw [HX1.out, HX2.out]
 clear pa0 pa1 pa2 pa3 ca0 ca1 ca2 ca3 ca4 ca5 ca6
 have Bb := Lib.hid (below_only Ba.out hb)
 clear hb
 go_wp2_with fail
 go_ret2
 exact ⟨rfl, Bb.out⟩

set_option maxRecDepth 100000 in
set_option maxHeartbeats 1000000 in
theorem rpc7 (P : Pln) (A : Option Addr) (k : Nat) (l : List Ent) (cr ch cv ca cb cc h v : Int) (w : World) (hl : l.length ≤ 1048576) (he : Ents w A l) (s0 : 1 ≤ P.s) (s1 : P.s ≤ 8) (hc : CalOk ⟨7, cr, ch, cv, ca, cb, cc⟩) (hh : 0 ≤ h ∧ h ≤ 18446744073709551615) (hv : 0 ≤ v ∧ v ≤ 18446744073709551615) :
  Calls Tryz.prog 69 #[P.val, .slice A l.length k, (Cal.mk 7 cr ch cv ca cb cc).vl, .int .u64 h, .int .u64 v] w fun r w' => r = .returned (.tuple #[.int .i64 (beginS P.s l ⟨7, cr, ch, cv, ca, cb, cc⟩ h v).1, .int .i64 (if (beginS P.s l ⟨7, cr, ch, cv, ca, cb, cc⟩ h v).1 = 0 then (beginS P.s l ⟨7, cr, ch, cv, ca, cb, cc⟩ h v).2 else 0)]) ∧ Below w.heap.size w w' := by
 obtain ⟨ps, pt, pi, ph⟩ := P
 dsimp only at s0 s1 ⊢
 have He := Lib.hid he
 have Hc := Lib.hid hc
 clear he hc
 have R1 := Lib.hid (show ((w.alloc (.cells #[.int .i64 ps, .int .i64 pt, .int .i64 pi, .int .i64 ph] 28)).alloc (.cells #[.int .u8 7, .int .u8 cr, .int .u8 ch, .int .u8 cv, .int .i64 ca, .int .i64 cb, .int .i64 cc] 36)).heap[w.heap.size]? = some (.cells #[.int .i64 ps, .int .i64 pt, .int .i64 pi, .int .i64 ph] 28 (0, 0)) from row_alloc (row_new w _ _))
 have R2 := Lib.hid (show ((w.alloc (.cells #[.int .i64 ps, .int .i64 pt, .int .i64 pi, .int .i64 ph] 28)).alloc (.cells #[.int .u8 7, .int .u8 cr, .int .u8 ch, .int .u8 cv, .int .i64 ca, .int .i64 cb, .int .i64 cc] 36)).heap[w.heap.size + 1]? = some (.cells #[.int .u8 7, .int .u8 cr, .int .u8 ch, .int .u8 cv, .int .i64 ca, .int .i64 cb, .int .i64 cc] 36 (0, 0)) from row_at (by simp))
 have B0 := Lib.hid (show Below w.heap.size w ((w.alloc (.cells #[.int .i64 ps, .int .i64 pt, .int .i64 pi, .int .i64 ph] 28)).alloc (.cells #[.int .u8 7, .int .u8 cr, .int .u8 ch, .int .u8 cv, .int .i64 ca, .int .i64 cb, .int .i64 cc] 36)) by go_grown)
 cases hn : rgOk cr with
 | false =>
  have Hrg := Lib.hid (show regsS ⟨7, cr, ch, cv, ca, cb, cc⟩ = false by simp [regsS, hn])
  have HV := Lib.hid (show beginS ps l ⟨7, cr, ch, cv, ca, cb, cc⟩ h v = (1, 0) by simp [beginS, hn])
  rw [HV.out]
  simp only [reduceIte, Int.reduceEq]
  go_enter Tryz.func69, Tryz.ntmps69
  go_wp2_with fail
  refine (regs_any ⟨7, cr, ch, cv, ca, cb, cc⟩ _ Hc.out).mono ?_
  rintro r w1 ⟨rfl, hb⟩
  rw [Hrg.out]
  have R1a := Lib.hid (row_below R1.out hb)
  have R2a := Lib.hid (row_below R2.out hb)
  have Ba := Lib.hid (below_only B0.out hb)
  clear hb
  obtain ⟨pa0, pa1, pa2, pa3, _, _, _, _⟩ := box4 R1a.out
  obtain ⟨ca0, ca1, ca2, ca3, ca4, ca5, ca6⟩ := box7 R2a.out
  have za := lt_of_heap R2a.out
  go_wp2_with fail
  go_ret2
  exact ⟨rfl, Ba.out⟩
 | true =>
  cases hw : wordsOk ca cb with
  | false =>
   have hq : (inB ca 0 6 && inB cb 0 512) = false := hw
   have Hrg := Lib.hid (show regsS ⟨7, cr, ch, cv, ca, cb, cc⟩ = true by simp [regsS, hn, Bool.and_assoc, hq])
   have HV := Lib.hid (show beginS ps l ⟨7, cr, ch, cv, ca, cb, cc⟩ h v = (1, 0) by simp [beginS, hn, Bool.and_assoc, hq])
   rw [HV.out]
   simp only [reduceIte, Int.reduceEq]
   go_enter Tryz.func69, Tryz.ntmps69
   go_wp2_with fail
   refine (regs_any ⟨7, cr, ch, cv, ca, cb, cc⟩ _ Hc.out).mono ?_
   rintro r w1 ⟨rfl, hb⟩
   rw [Hrg.out]
   have R1a := Lib.hid (row_below R1.out hb)
   have R2a := Lib.hid (row_below R2.out hb)
   have Ba := Lib.hid (below_only B0.out hb)
   clear hb
   obtain ⟨pa0, pa1, pa2, pa3, _, _, _, _⟩ := box4 R1a.out
   obtain ⟨ca0, ca1, ca2, ca3, ca4, ca5, ca6⟩ := box7 R2a.out
   have za := lt_of_heap R2a.out
   go_wp2_with fail
   refine (rwords_any ca cb _).mono ?_
   rintro r w2 ⟨rfl, rfl⟩
   rw [hw]
   simp only [reduceIte, Bool.false_eq_true]
   go_wp2_with fail
   go_ret2
   exact ⟨rfl, Ba.out⟩
  | true =>
   have hq : (inB ca 0 6 && inB cb 0 512) = true := hw
   by_cases h1 : cc < 0
   ·have d1 : decide (cc < 0) = true := decide_eq_true (by omega)
    have hi : inB cc 0 7 = false := inB_f (by omega)
    have Hrg := Lib.hid (show regsS ⟨7, cr, ch, cv, ca, cb, cc⟩ = true by simp [regsS, hn, hi])
    have HV := Lib.hid (show beginS ps l ⟨7, cr, ch, cv, ca, cb, cc⟩ h v = (1, 0) by simp [beginS, hn, hi])
    rw [HV.out]
    simp only [reduceIte, Int.reduceEq]
    go_enter Tryz.func69, Tryz.ntmps69
    go_wp2_with fail
    refine (regs_any ⟨7, cr, ch, cv, ca, cb, cc⟩ _ Hc.out).mono ?_
    rintro r w1 ⟨rfl, hb⟩
    rw [Hrg.out]
    have R1a := Lib.hid (row_below R1.out hb)
    have R2a := Lib.hid (row_below R2.out hb)
    have Ba := Lib.hid (below_only B0.out hb)
    clear hb
    obtain ⟨pa0, pa1, pa2, pa3, _, _, _, _⟩ := box4 R1a.out
    obtain ⟨ca0, ca1, ca2, ca3, ca4, ca5, ca6⟩ := box7 R2a.out
    have za := lt_of_heap R2a.out
    go_wp2_with fail
    refine (rwords_any ca cb _).mono ?_
    rintro r w2 ⟨rfl, rfl⟩
    rw [hw]
    simp only [reduceIte, Bool.false_eq_true]
    go_wp2_with fail
    go_ret2
    exact ⟨rfl, Ba.out⟩
   ·by_cases h2 : cc ≤ 7
    ·have d1 : decide (cc < 0) = false := decide_eq_false (by omega)
     have d2 : decide (cc ≥ 8) = false := decide_eq_false (by omega)
     have d3 : decide (8 ≤ cc) = false := decide_eq_false (by omega)
     have hi : inB cc 0 7 = true := inB_t (by omega)
     have Hrg := Lib.hid (show regsS ⟨7, cr, ch, cv, ca, cb, cc⟩ = true by simp [regsS, hn, hi, Bool.and_assoc, hq])
     have HV := Lib.hid (show beginS ps l ⟨7, cr, ch, cv, ca, cb, cc⟩ h v = (0, 5) by simp [beginS, hn, hi, Bool.and_assoc, hq])
     rw [HV.out]
     simp only [reduceIte, Int.reduceEq]
     go_enter Tryz.func69, Tryz.ntmps69
     go_wp2_with fail
     refine (regs_any ⟨7, cr, ch, cv, ca, cb, cc⟩ _ Hc.out).mono ?_
     rintro r w1 ⟨rfl, hb⟩
     rw [Hrg.out]
     have R1a := Lib.hid (row_below R1.out hb)
     have R2a := Lib.hid (row_below R2.out hb)
     have Ba := Lib.hid (below_only B0.out hb)
     clear hb
     obtain ⟨pa0, pa1, pa2, pa3, _, _, _, _⟩ := box4 R1a.out
     obtain ⟨ca0, ca1, ca2, ca3, ca4, ca5, ca6⟩ := box7 R2a.out
     have za := lt_of_heap R2a.out
     go_wp2_with fail
     refine (rwords_any ca cb _).mono ?_
     rintro r w2 ⟨rfl, rfl⟩
     rw [hw]
     simp only [reduceIte, Bool.false_eq_true]
     go_wp2_with fail
     go_ret2
     exact ⟨rfl, Ba.out⟩
    ·have d1 : decide (cc < 0) = false := decide_eq_false (by omega)
     have d2 : decide (cc ≥ 8) = true := decide_eq_true (by omega)
     have d3 : decide (8 ≤ cc) = true := decide_eq_true (by omega)
     have hi : inB cc 0 7 = false := inB_f (by omega)
     have Hrg := Lib.hid (show regsS ⟨7, cr, ch, cv, ca, cb, cc⟩ = true by simp [regsS, hn, hi])
     have HV := Lib.hid (show beginS ps l ⟨7, cr, ch, cv, ca, cb, cc⟩ h v = (1, 0) by simp [beginS, hn, hi])
     rw [HV.out]
     simp only [reduceIte, Int.reduceEq]
     go_enter Tryz.func69, Tryz.ntmps69
     go_wp2_with fail
     refine (regs_any ⟨7, cr, ch, cv, ca, cb, cc⟩ _ Hc.out).mono ?_
     rintro r w1 ⟨rfl, hb⟩
     rw [Hrg.out]
     have R1a := Lib.hid (row_below R1.out hb)
     have R2a := Lib.hid (row_below R2.out hb)
     have Ba := Lib.hid (below_only B0.out hb)
     clear hb
     obtain ⟨pa0, pa1, pa2, pa3, _, _, _, _⟩ := box4 R1a.out
     obtain ⟨ca0, ca1, ca2, ca3, ca4, ca5, ca6⟩ := box7 R2a.out
     have za := lt_of_heap R2a.out
     go_wp2_with fail
     refine (rwords_any ca cb _).mono ?_
     rintro r w2 ⟨rfl, rfl⟩
     rw [hw]
     simp only [reduceIte, Bool.false_eq_true]
     go_wp2_with fail
     go_ret2
     exact ⟨rfl, Ba.out⟩

set_option maxRecDepth 100000 in
set_option maxHeartbeats 1000000 in
theorem rpc8 (P : Pln) (A : Option Addr) (k : Nat) (l : List Ent) (cr ch cv ca cb cc h v : Int) (w : World) (hl : l.length ≤ 1048576) (he : Ents w A l) (s0 : 1 ≤ P.s) (s1 : P.s ≤ 8) (hc : CalOk ⟨8, cr, ch, cv, ca, cb, cc⟩) (hh : 0 ≤ h ∧ h ≤ 18446744073709551615) (hv : 0 ≤ v ∧ v ≤ 18446744073709551615) :
  Calls Tryz.prog 69 #[P.val, .slice A l.length k, (Cal.mk 8 cr ch cv ca cb cc).vl, .int .u64 h, .int .u64 v] w fun r w' => r = .returned (.tuple #[.int .i64 (beginS P.s l ⟨8, cr, ch, cv, ca, cb, cc⟩ h v).1, .int .i64 (if (beginS P.s l ⟨8, cr, ch, cv, ca, cb, cc⟩ h v).1 = 0 then (beginS P.s l ⟨8, cr, ch, cv, ca, cb, cc⟩ h v).2 else 0)]) ∧ Below w.heap.size w w' := by
 obtain ⟨ps, pt, pi, ph⟩ := P
 dsimp only at s0 s1 ⊢
 have He := Lib.hid he
 have Hc := Lib.hid hc
 clear he hc
 have R1 := Lib.hid (show ((w.alloc (.cells #[.int .i64 ps, .int .i64 pt, .int .i64 pi, .int .i64 ph] 28)).alloc (.cells #[.int .u8 8, .int .u8 cr, .int .u8 ch, .int .u8 cv, .int .i64 ca, .int .i64 cb, .int .i64 cc] 36)).heap[w.heap.size]? = some (.cells #[.int .i64 ps, .int .i64 pt, .int .i64 pi, .int .i64 ph] 28 (0, 0)) from row_alloc (row_new w _ _))
 have R2 := Lib.hid (show ((w.alloc (.cells #[.int .i64 ps, .int .i64 pt, .int .i64 pi, .int .i64 ph] 28)).alloc (.cells #[.int .u8 8, .int .u8 cr, .int .u8 ch, .int .u8 cv, .int .i64 ca, .int .i64 cb, .int .i64 cc] 36)).heap[w.heap.size + 1]? = some (.cells #[.int .u8 8, .int .u8 cr, .int .u8 ch, .int .u8 cv, .int .i64 ca, .int .i64 cb, .int .i64 cc] 36 (0, 0)) from row_at (by simp))
 have B0 := Lib.hid (show Below w.heap.size w ((w.alloc (.cells #[.int .i64 ps, .int .i64 pt, .int .i64 pi, .int .i64 ph] 28)).alloc (.cells #[.int .u8 8, .int .u8 cr, .int .u8 ch, .int .u8 cv, .int .i64 ca, .int .i64 cb, .int .i64 cc] 36)) by go_grown)
 cases hn : rgOk cr with
 | false =>
  have Hrg := Lib.hid (show regsS ⟨8, cr, ch, cv, ca, cb, cc⟩ = false by simp [regsS, hn])
  have HV := Lib.hid (show beginS ps l ⟨8, cr, ch, cv, ca, cb, cc⟩ h v = (1, 0) by simp [beginS, hn])
  rw [HV.out]
  simp only [reduceIte, Int.reduceEq]
  go_enter Tryz.func69, Tryz.ntmps69
  go_wp2_with fail
  refine (regs_any ⟨8, cr, ch, cv, ca, cb, cc⟩ _ Hc.out).mono ?_
  rintro r w1 ⟨rfl, hb⟩
  rw [Hrg.out]
  have R1a := Lib.hid (row_below R1.out hb)
  have R2a := Lib.hid (row_below R2.out hb)
  have Ba := Lib.hid (below_only B0.out hb)
  clear hb
  obtain ⟨pa0, pa1, pa2, pa3, _, _, _, _⟩ := box4 R1a.out
  obtain ⟨ca0, ca1, ca2, ca3, ca4, ca5, ca6⟩ := box7 R2a.out
  have za := lt_of_heap R2a.out
  go_wp2_with fail
  go_ret2
  exact ⟨rfl, Ba.out⟩
 | true =>
  cases hm : rgOk ch with
  | false =>
   have Hrg := Lib.hid (show regsS ⟨8, cr, ch, cv, ca, cb, cc⟩ = false by simp [regsS, hn, hm])
   have HV := Lib.hid (show beginS ps l ⟨8, cr, ch, cv, ca, cb, cc⟩ h v = (1, 0) by simp [beginS, hn, hm])
   rw [HV.out]
   simp only [reduceIte, Int.reduceEq]
   go_enter Tryz.func69, Tryz.ntmps69
   go_wp2_with fail
   refine (regs_any ⟨8, cr, ch, cv, ca, cb, cc⟩ _ Hc.out).mono ?_
   rintro r w1 ⟨rfl, hb⟩
   rw [Hrg.out]
   have R1a := Lib.hid (row_below R1.out hb)
   have R2a := Lib.hid (row_below R2.out hb)
   have Ba := Lib.hid (below_only B0.out hb)
   clear hb
   obtain ⟨pa0, pa1, pa2, pa3, _, _, _, _⟩ := box4 R1a.out
   obtain ⟨ca0, ca1, ca2, ca3, ca4, ca5, ca6⟩ := box7 R2a.out
   have za := lt_of_heap R2a.out
   go_wp2_with fail
   go_ret2
   exact ⟨rfl, Ba.out⟩
  | true =>
   obtain ⟨ck, Hck⟩ : ∃ x, Hid ((checkR ps l h).2 = x) := ⟨_, Lib.hid rfl⟩
   by_cases hc : ck = 0
   ·subst hc
    have Hrg := Lib.hid (show regsS ⟨8, cr, ch, cv, ca, cb, cc⟩ = true by simp [regsS, hn, hm, Hck.out])
    have HV := Lib.hid (show beginS ps l ⟨8, cr, ch, cv, ca, cb, cc⟩ h v = (0, 5) by simp [beginS, hn, hm, Hck.out])
    rw [HV.out]
    simp only [reduceIte, Int.reduceEq]
    go_enter Tryz.func69, Tryz.ntmps69
    go_wp2_with fail
    refine (regs_any ⟨8, cr, ch, cv, ca, cb, cc⟩ _ Hc.out).mono ?_
    rintro r w1 ⟨rfl, hb⟩
    rw [Hrg.out]
    have R1a := Lib.hid (row_below R1.out hb)
    have R2a := Lib.hid (row_below R2.out hb)
    have Ba := Lib.hid (below_only B0.out hb)
    clear hb
    obtain ⟨pa0, pa1, pa2, pa3, _, _, _, _⟩ := box4 R1a.out
    obtain ⟨ca0, ca1, ca2, ca3, ca4, ca5, ca6⟩ := box7 R2a.out
    have za := lt_of_heap R2a.out
    go_wp2_with fail
    refine (rcheck_any ⟨ps, pt, pi, ph⟩ A k l h _ (by omega) (Cells.below He.out Ba.out) hh.1 hh.2).mono ?_
    rintro r w3 ⟨rfl, hb⟩
    dsimp only
    rw [Hck.out]
    clear pa0 pa1 pa2 pa3 ca0 ca1 ca2 ca3 ca4 ca5 ca6
    have R1c := Lib.hid (row_below R1a.out hb)
    have R2c := Lib.hid (row_below R2a.out hb)
    have Bc := Lib.hid (below_only Ba.out hb)
    clear hb
    obtain ⟨pc0, pc1, pc2, pc3, _, _, _, _⟩ := box4 R1c.out
    obtain ⟨cc0, cc1, cc2, cc3, cc4, cc5, cc6⟩ := box7 R2c.out
    have zc := lt_of_heap R2c.out
    go_wp2_with fail
    go_ret2
    exact ⟨rfl, below_alloc_below Bc.out⟩
   ·have hc' : (ck != 0) = true := by simpa using hc
    have Hcn := Lib.hid hc
    clear hc
    have Hrg := Lib.hid (show regsS ⟨8, cr, ch, cv, ca, cb, cc⟩ = true by simp [regsS, hn, hm, Hck.out, Hcn.out])
    have HV := Lib.hid (show beginS ps l ⟨8, cr, ch, cv, ca, cb, cc⟩ h v = (ck, 0) by simp [beginS, hn, hm, Hck.out, Hcn.out])
    rw [HV.out]
    rw [show (if (ck, (0 : Int)).1 = 0 then (ck, (0 : Int)).2 else 0) = 0 by split <;> rfl]
    go_enter Tryz.func69, Tryz.ntmps69
    go_wp2_with fail
    refine (regs_any ⟨8, cr, ch, cv, ca, cb, cc⟩ _ Hc.out).mono ?_
    rintro r w1 ⟨rfl, hb⟩
    rw [Hrg.out]
    have R1a := Lib.hid (row_below R1.out hb)
    have R2a := Lib.hid (row_below R2.out hb)
    have Ba := Lib.hid (below_only B0.out hb)
    clear hb
    obtain ⟨pa0, pa1, pa2, pa3, _, _, _, _⟩ := box4 R1a.out
    obtain ⟨ca0, ca1, ca2, ca3, ca4, ca5, ca6⟩ := box7 R2a.out
    have za := lt_of_heap R2a.out
    go_wp2_with fail
    refine (rcheck_any ⟨ps, pt, pi, ph⟩ A k l h _ (by omega) (Cells.below He.out Ba.out) hh.1 hh.2).mono ?_
    rintro r w3 ⟨rfl, hb⟩
    dsimp only
    rw [Hck.out]
    clear pa0 pa1 pa2 pa3 ca0 ca1 ca2 ca3 ca4 ca5 ca6
    have R1c := Lib.hid (row_below R1a.out hb)
    have R2c := Lib.hid (row_below R2a.out hb)
    have Bc := Lib.hid (below_only Ba.out hb)
    clear hb
    obtain ⟨pc0, pc1, pc2, pc3, _, _, _, _⟩ := box4 R1c.out
    obtain ⟨cc0, cc1, cc2, cc3, cc4, cc5, cc6⟩ := box7 R2c.out
    have zc := lt_of_heap R2c.out
    go_wp2_with fail
    go_ret2
    exact ⟨rfl, below_alloc_below Bc.out⟩

set_option maxRecDepth 100000 in
set_option maxHeartbeats 1000000 in
theorem rpc9 (P : Pln) (A : Option Addr) (k : Nat) (l : List Ent) (cr ch cv ca cb cc h v : Int) (w : World) (hl : l.length ≤ 1048576) (he : Ents w A l) (s0 : 1 ≤ P.s) (s1 : P.s ≤ 8) (hc : CalOk ⟨9, cr, ch, cv, ca, cb, cc⟩) (hh : 0 ≤ h ∧ h ≤ 18446744073709551615) (hv : 0 ≤ v ∧ v ≤ 18446744073709551615) :
  Calls Tryz.prog 69 #[P.val, .slice A l.length k, (Cal.mk 9 cr ch cv ca cb cc).vl, .int .u64 h, .int .u64 v] w fun r w' => r = .returned (.tuple #[.int .i64 (beginS P.s l ⟨9, cr, ch, cv, ca, cb, cc⟩ h v).1, .int .i64 (if (beginS P.s l ⟨9, cr, ch, cv, ca, cb, cc⟩ h v).1 = 0 then (beginS P.s l ⟨9, cr, ch, cv, ca, cb, cc⟩ h v).2 else 0)]) ∧ Below w.heap.size w w' := by
 obtain ⟨ps, pt, pi, ph⟩ := P
 dsimp only at s0 s1 ⊢
 have He := Lib.hid he
 have Hc := Lib.hid hc
 clear he hc
 have R1 := Lib.hid (show ((w.alloc (.cells #[.int .i64 ps, .int .i64 pt, .int .i64 pi, .int .i64 ph] 28)).alloc (.cells #[.int .u8 9, .int .u8 cr, .int .u8 ch, .int .u8 cv, .int .i64 ca, .int .i64 cb, .int .i64 cc] 36)).heap[w.heap.size]? = some (.cells #[.int .i64 ps, .int .i64 pt, .int .i64 pi, .int .i64 ph] 28 (0, 0)) from row_alloc (row_new w _ _))
 have R2 := Lib.hid (show ((w.alloc (.cells #[.int .i64 ps, .int .i64 pt, .int .i64 pi, .int .i64 ph] 28)).alloc (.cells #[.int .u8 9, .int .u8 cr, .int .u8 ch, .int .u8 cv, .int .i64 ca, .int .i64 cb, .int .i64 cc] 36)).heap[w.heap.size + 1]? = some (.cells #[.int .u8 9, .int .u8 cr, .int .u8 ch, .int .u8 cv, .int .i64 ca, .int .i64 cb, .int .i64 cc] 36 (0, 0)) from row_at (by simp))
 have B0 := Lib.hid (show Below w.heap.size w ((w.alloc (.cells #[.int .i64 ps, .int .i64 pt, .int .i64 pi, .int .i64 ph] 28)).alloc (.cells #[.int .u8 9, .int .u8 cr, .int .u8 ch, .int .u8 cv, .int .i64 ca, .int .i64 cb, .int .i64 cc] 36)) by go_grown)
 cases hn : rgOk ch with
 | false =>
  have Hrg := Lib.hid (show regsS ⟨9, cr, ch, cv, ca, cb, cc⟩ = false by simp [regsS, hn])
  have HV := Lib.hid (show beginS ps l ⟨9, cr, ch, cv, ca, cb, cc⟩ h v = (1, 0) by simp [beginS, hn])
  rw [HV.out]
  simp only [reduceIte, Int.reduceEq]
  go_enter Tryz.func69, Tryz.ntmps69
  go_wp2_with fail
  refine (regs_any ⟨9, cr, ch, cv, ca, cb, cc⟩ _ Hc.out).mono ?_
  rintro r w1 ⟨rfl, hb⟩
  rw [Hrg.out]
  have R1a := Lib.hid (row_below R1.out hb)
  have R2a := Lib.hid (row_below R2.out hb)
  have Ba := Lib.hid (below_only B0.out hb)
  clear hb
  obtain ⟨pa0, pa1, pa2, pa3, _, _, _, _⟩ := box4 R1a.out
  obtain ⟨ca0, ca1, ca2, ca3, ca4, ca5, ca6⟩ := box7 R2a.out
  have za := lt_of_heap R2a.out
  go_wp2_with fail
  go_ret2
  exact ⟨rfl, Ba.out⟩
 | true =>
  cases hm : rgOk cv with
  | false =>
   have Hrg := Lib.hid (show regsS ⟨9, cr, ch, cv, ca, cb, cc⟩ = false by simp [regsS, hn, hm])
   have HV := Lib.hid (show beginS ps l ⟨9, cr, ch, cv, ca, cb, cc⟩ h v = (1, 0) by simp [beginS, hn, hm])
   rw [HV.out]
   simp only [reduceIte, Int.reduceEq]
   go_enter Tryz.func69, Tryz.ntmps69
   go_wp2_with fail
   refine (regs_any ⟨9, cr, ch, cv, ca, cb, cc⟩ _ Hc.out).mono ?_
   rintro r w1 ⟨rfl, hb⟩
   rw [Hrg.out]
   have R1a := Lib.hid (row_below R1.out hb)
   have R2a := Lib.hid (row_below R2.out hb)
   have Ba := Lib.hid (below_only B0.out hb)
   clear hb
   obtain ⟨pa0, pa1, pa2, pa3, _, _, _, _⟩ := box4 R1a.out
   obtain ⟨ca0, ca1, ca2, ca3, ca4, ca5, ca6⟩ := box7 R2a.out
   have za := lt_of_heap R2a.out
   go_wp2_with fail
   go_ret2
   exact ⟨rfl, Ba.out⟩
  | true =>
   obtain ⟨ck, Hck⟩ : ∃ x, Hid ((checkR ps l h).2 = x) := ⟨_, Lib.hid rfl⟩
   by_cases hc : ck = 0
   ·subst hc
    have Hrg := Lib.hid (show regsS ⟨9, cr, ch, cv, ca, cb, cc⟩ = true by simp [regsS, hn, hm, Hck.out])
    have HV := Lib.hid (show beginS ps l ⟨9, cr, ch, cv, ca, cb, cc⟩ h v = (0, 5) by simp [beginS, hn, hm, Hck.out])
    rw [HV.out]
    simp only [reduceIte, Int.reduceEq]
    go_enter Tryz.func69, Tryz.ntmps69
    go_wp2_with fail
    refine (regs_any ⟨9, cr, ch, cv, ca, cb, cc⟩ _ Hc.out).mono ?_
    rintro r w1 ⟨rfl, hb⟩
    rw [Hrg.out]
    have R1a := Lib.hid (row_below R1.out hb)
    have R2a := Lib.hid (row_below R2.out hb)
    have Ba := Lib.hid (below_only B0.out hb)
    clear hb
    obtain ⟨pa0, pa1, pa2, pa3, _, _, _, _⟩ := box4 R1a.out
    obtain ⟨ca0, ca1, ca2, ca3, ca4, ca5, ca6⟩ := box7 R2a.out
    have za := lt_of_heap R2a.out
    go_wp2_with fail
    refine (rcheck_any ⟨ps, pt, pi, ph⟩ A k l h _ (by omega) (Cells.below He.out Ba.out) hh.1 hh.2).mono ?_
    rintro r w3 ⟨rfl, hb⟩
    dsimp only
    rw [Hck.out]
    clear pa0 pa1 pa2 pa3 ca0 ca1 ca2 ca3 ca4 ca5 ca6
    have R1c := Lib.hid (row_below R1a.out hb)
    have R2c := Lib.hid (row_below R2a.out hb)
    have Bc := Lib.hid (below_only Ba.out hb)
    clear hb
    obtain ⟨pc0, pc1, pc2, pc3, _, _, _, _⟩ := box4 R1c.out
    obtain ⟨cc0, cc1, cc2, cc3, cc4, cc5, cc6⟩ := box7 R2c.out
    have zc := lt_of_heap R2c.out
    go_wp2_with fail
    go_ret2
    exact ⟨rfl, below_alloc_below Bc.out⟩
   ·have hc' : (ck != 0) = true := by simpa using hc
    have Hcn := Lib.hid hc
    clear hc
    have Hrg := Lib.hid (show regsS ⟨9, cr, ch, cv, ca, cb, cc⟩ = true by simp [regsS, hn, hm, Hck.out, Hcn.out])
    have HV := Lib.hid (show beginS ps l ⟨9, cr, ch, cv, ca, cb, cc⟩ h v = (ck, 0) by simp [beginS, hn, hm, Hck.out, Hcn.out])
    rw [HV.out]
    rw [show (if (ck, (0 : Int)).1 = 0 then (ck, (0 : Int)).2 else 0) = 0 by split <;> rfl]
    go_enter Tryz.func69, Tryz.ntmps69
    go_wp2_with fail
    refine (regs_any ⟨9, cr, ch, cv, ca, cb, cc⟩ _ Hc.out).mono ?_
    rintro r w1 ⟨rfl, hb⟩
    rw [Hrg.out]
    have R1a := Lib.hid (row_below R1.out hb)
    have R2a := Lib.hid (row_below R2.out hb)
    have Ba := Lib.hid (below_only B0.out hb)
    clear hb
    obtain ⟨pa0, pa1, pa2, pa3, _, _, _, _⟩ := box4 R1a.out
    obtain ⟨ca0, ca1, ca2, ca3, ca4, ca5, ca6⟩ := box7 R2a.out
    have za := lt_of_heap R2a.out
    go_wp2_with fail
    refine (rcheck_any ⟨ps, pt, pi, ph⟩ A k l h _ (by omega) (Cells.below He.out Ba.out) hh.1 hh.2).mono ?_
    rintro r w3 ⟨rfl, hb⟩
    dsimp only
    rw [Hck.out]
    clear pa0 pa1 pa2 pa3 ca0 ca1 ca2 ca3 ca4 ca5 ca6
    have R1c := Lib.hid (row_below R1a.out hb)
    have R2c := Lib.hid (row_below R2a.out hb)
    have Bc := Lib.hid (below_only Ba.out hb)
    clear hb
    obtain ⟨pc0, pc1, pc2, pc3, _, _, _, _⟩ := box4 R1c.out
    obtain ⟨cc0, cc1, cc2, cc3, cc4, cc5, cc6⟩ := box7 R2c.out
    have zc := lt_of_heap R2c.out
    go_wp2_with fail
    go_ret2
    exact ⟨rfl, below_alloc_below Bc.out⟩

set_option maxRecDepth 100000 in
set_option maxHeartbeats 1000000 in
theorem rpc10 (P : Pln) (A : Option Addr) (k : Nat) (l : List Ent) (cr ch cv ca cb cc h v : Int) (w : World) (hl : l.length ≤ 1048576) (he : Ents w A l) (s0 : 1 ≤ P.s) (s1 : P.s ≤ 8) (hc : CalOk ⟨10, cr, ch, cv, ca, cb, cc⟩) (hh : 0 ≤ h ∧ h ≤ 18446744073709551615) (hv : 0 ≤ v ∧ v ≤ 18446744073709551615) :
  Calls Tryz.prog 69 #[P.val, .slice A l.length k, (Cal.mk 10 cr ch cv ca cb cc).vl, .int .u64 h, .int .u64 v] w fun r w' => r = .returned (.tuple #[.int .i64 (beginS P.s l ⟨10, cr, ch, cv, ca, cb, cc⟩ h v).1, .int .i64 (if (beginS P.s l ⟨10, cr, ch, cv, ca, cb, cc⟩ h v).1 = 0 then (beginS P.s l ⟨10, cr, ch, cv, ca, cb, cc⟩ h v).2 else 0)]) ∧ Below w.heap.size w w' := by
 obtain ⟨ps, pt, pi, ph⟩ := P
 dsimp only at s0 s1 ⊢
 have He := Lib.hid he
 have Hc := Lib.hid hc
 clear he hc
 have R1 := Lib.hid (show ((w.alloc (.cells #[.int .i64 ps, .int .i64 pt, .int .i64 pi, .int .i64 ph] 28)).alloc (.cells #[.int .u8 10, .int .u8 cr, .int .u8 ch, .int .u8 cv, .int .i64 ca, .int .i64 cb, .int .i64 cc] 36)).heap[w.heap.size]? = some (.cells #[.int .i64 ps, .int .i64 pt, .int .i64 pi, .int .i64 ph] 28 (0, 0)) from row_alloc (row_new w _ _))
 have R2 := Lib.hid (show ((w.alloc (.cells #[.int .i64 ps, .int .i64 pt, .int .i64 pi, .int .i64 ph] 28)).alloc (.cells #[.int .u8 10, .int .u8 cr, .int .u8 ch, .int .u8 cv, .int .i64 ca, .int .i64 cb, .int .i64 cc] 36)).heap[w.heap.size + 1]? = some (.cells #[.int .u8 10, .int .u8 cr, .int .u8 ch, .int .u8 cv, .int .i64 ca, .int .i64 cb, .int .i64 cc] 36 (0, 0)) from row_at (by simp))
 have B0 := Lib.hid (show Below w.heap.size w ((w.alloc (.cells #[.int .i64 ps, .int .i64 pt, .int .i64 pi, .int .i64 ph] 28)).alloc (.cells #[.int .u8 10, .int .u8 cr, .int .u8 ch, .int .u8 cv, .int .i64 ca, .int .i64 cb, .int .i64 cc] 36)) by go_grown)
 cases hn : rgOk cr with
 | false =>
  have Hrg := Lib.hid (show regsS ⟨10, cr, ch, cv, ca, cb, cc⟩ = false by simp [regsS, hn])
  have HV := Lib.hid (show beginS ps l ⟨10, cr, ch, cv, ca, cb, cc⟩ h v = (1, 0) by simp [beginS, hn])
  rw [HV.out]
  simp only [reduceIte, Int.reduceEq]
  go_enter Tryz.func69, Tryz.ntmps69
  go_wp2_with fail
  refine (regs_any ⟨10, cr, ch, cv, ca, cb, cc⟩ _ Hc.out).mono ?_
  rintro r w1 ⟨rfl, hb⟩
  rw [Hrg.out]
  have R1a := Lib.hid (row_below R1.out hb)
  have R2a := Lib.hid (row_below R2.out hb)
  have Ba := Lib.hid (below_only B0.out hb)
  clear hb
  obtain ⟨pa0, pa1, pa2, pa3, _, _, _, _⟩ := box4 R1a.out
  obtain ⟨ca0, ca1, ca2, ca3, ca4, ca5, ca6⟩ := box7 R2a.out
  have za := lt_of_heap R2a.out
  go_wp2_with fail
  go_ret2
  exact ⟨rfl, Ba.out⟩
 | true =>
  have Hrg := Lib.hid (show regsS ⟨10, cr, ch, cv, ca, cb, cc⟩ = true by simp [regsS, hn])
  have Hn := Lib.hid hn
  clear hn
  obtain ⟨x1, HX1⟩ : ∃ x, Hid ((beginS ps l ⟨10, cr, ch, cv, ca, cb, cc⟩ h v).1 = x) := ⟨_, Lib.hid rfl⟩
  obtain ⟨x2, HX2⟩ : ∃ x, Hid ((beginS ps l ⟨10, cr, ch, cv, ca, cb, cc⟩ h v).2 = x) := ⟨_, Lib.hid rfl⟩
  have HX3 := Lib.hid (show (if x1 = 0 then x2 else 0) = x2 by rw [← HX1.out, ← HX2.out]; cases hg : rgOk cr <;> cases hi : inB ca 1 (ps - 1) <;> cases hr : reach l ca <;> simp [beginS, hg, hi, hr])
  rw [HX1.out, HX2.out, HX3.out]
  go_enter Tryz.func69, Tryz.ntmps69
  go_wp2_with fail
  refine (regs_any ⟨10, cr, ch, cv, ca, cb, cc⟩ _ Hc.out).mono ?_
  rintro r w1 ⟨rfl, hb⟩
  rw [Hrg.out]
  have R1a := Lib.hid (row_below R1.out hb)
  have R2a := Lib.hid (row_below R2.out hb)
  have Ba := Lib.hid (below_only B0.out hb)
  clear hb
  obtain ⟨pa0, pa1, pa2, pa3, _, _, _, _⟩ := box4 R1a.out
  obtain ⟨ca0, ca1, ca2, ca3, ca4, ca5, ca6⟩ := box7 R2a.out
  have za := lt_of_heap R2a.out
  go_wp2_with fail
  refine (rgate10 ⟨ps, pt, pi, ph⟩ A k l cr ch cv ca cb cc h v _ hl (Cells.below He.out Ba.out) s0 s1 hv Hn.out).mono ?_
  rintro r w2 ⟨rfl, hb⟩
  dsimp only
  rw [HX1.out, HX2.out]
  clear pa0 pa1 pa2 pa3 ca0 ca1 ca2 ca3 ca4 ca5 ca6
  have Bb := Lib.hid (below_only Ba.out hb)
  clear hb
  go_wp2_with fail
  go_ret2
  exact ⟨rfl, Bb.out⟩

set_option maxRecDepth 100000 in
set_option maxHeartbeats 1000000 in
theorem rpc11 (P : Pln) (A : Option Addr) (k : Nat) (l : List Ent) (cr ch cv ca cb cc h v : Int) (w : World) (hl : l.length ≤ 1048576) (he : Ents w A l) (s0 : 1 ≤ P.s) (s1 : P.s ≤ 8) (hc : CalOk ⟨11, cr, ch, cv, ca, cb, cc⟩) (hh : 0 ≤ h ∧ h ≤ 18446744073709551615) (hv : 0 ≤ v ∧ v ≤ 18446744073709551615) :
  Calls Tryz.prog 69 #[P.val, .slice A l.length k, (Cal.mk 11 cr ch cv ca cb cc).vl, .int .u64 h, .int .u64 v] w fun r w' => r = .returned (.tuple #[.int .i64 (beginS P.s l ⟨11, cr, ch, cv, ca, cb, cc⟩ h v).1, .int .i64 (if (beginS P.s l ⟨11, cr, ch, cv, ca, cb, cc⟩ h v).1 = 0 then (beginS P.s l ⟨11, cr, ch, cv, ca, cb, cc⟩ h v).2 else 0)]) ∧ Below w.heap.size w w' := by
 obtain ⟨ps, pt, pi, ph⟩ := P
 dsimp only at s0 s1 ⊢
 have He := Lib.hid he
 have Hc := Lib.hid hc
 clear he hc
 have R1 := Lib.hid (show ((w.alloc (.cells #[.int .i64 ps, .int .i64 pt, .int .i64 pi, .int .i64 ph] 28)).alloc (.cells #[.int .u8 11, .int .u8 cr, .int .u8 ch, .int .u8 cv, .int .i64 ca, .int .i64 cb, .int .i64 cc] 36)).heap[w.heap.size]? = some (.cells #[.int .i64 ps, .int .i64 pt, .int .i64 pi, .int .i64 ph] 28 (0, 0)) from row_alloc (row_new w _ _))
 have R2 := Lib.hid (show ((w.alloc (.cells #[.int .i64 ps, .int .i64 pt, .int .i64 pi, .int .i64 ph] 28)).alloc (.cells #[.int .u8 11, .int .u8 cr, .int .u8 ch, .int .u8 cv, .int .i64 ca, .int .i64 cb, .int .i64 cc] 36)).heap[w.heap.size + 1]? = some (.cells #[.int .u8 11, .int .u8 cr, .int .u8 ch, .int .u8 cv, .int .i64 ca, .int .i64 cb, .int .i64 cc] 36 (0, 0)) from row_at (by simp))
 have B0 := Lib.hid (show Below w.heap.size w ((w.alloc (.cells #[.int .i64 ps, .int .i64 pt, .int .i64 pi, .int .i64 ph] 28)).alloc (.cells #[.int .u8 11, .int .u8 cr, .int .u8 ch, .int .u8 cv, .int .i64 ca, .int .i64 cb, .int .i64 cc] 36)) by go_grown)
 cases hn : rgOk cv with
 | false =>
  have Hrg := Lib.hid (show regsS ⟨11, cr, ch, cv, ca, cb, cc⟩ = false by simp [regsS, hn])
  have HV := Lib.hid (show beginS ps l ⟨11, cr, ch, cv, ca, cb, cc⟩ h v = (1, 0) by simp [beginS, hn])
  rw [HV.out]
  simp only [reduceIte, Int.reduceEq]
  go_enter Tryz.func69, Tryz.ntmps69
  go_wp2_with fail
  refine (regs_any ⟨11, cr, ch, cv, ca, cb, cc⟩ _ Hc.out).mono ?_
  rintro r w1 ⟨rfl, hb⟩
  rw [Hrg.out]
  have R1a := Lib.hid (row_below R1.out hb)
  have R2a := Lib.hid (row_below R2.out hb)
  have Ba := Lib.hid (below_only B0.out hb)
  clear hb
  obtain ⟨pa0, pa1, pa2, pa3, _, _, _, _⟩ := box4 R1a.out
  obtain ⟨ca0, ca1, ca2, ca3, ca4, ca5, ca6⟩ := box7 R2a.out
  have za := lt_of_heap R2a.out
  go_wp2_with fail
  go_ret2
  exact ⟨rfl, Ba.out⟩
 | true =>
  have Hrg := Lib.hid (show regsS ⟨11, cr, ch, cv, ca, cb, cc⟩ = true by simp [regsS, hn])
  have Hn := Lib.hid hn
  clear hn
  obtain ⟨x1, HX1⟩ : ∃ x, Hid ((beginS ps l ⟨11, cr, ch, cv, ca, cb, cc⟩ h v).1 = x) := ⟨_, Lib.hid rfl⟩
  obtain ⟨x2, HX2⟩ : ∃ x, Hid ((beginS ps l ⟨11, cr, ch, cv, ca, cb, cc⟩ h v).2 = x) := ⟨_, Lib.hid rfl⟩
  have HX3 := Lib.hid (show (if x1 = 0 then x2 else 0) = x2 by rw [← HX1.out, ← HX2.out]; cases hg : rgOk cv <;> cases hi : inB ca 1 (ps - 1) <;> cases hr : reach l ca <;> by_cases h0 : v = 0 <;> by_cases hc : (checkR ps l v).2 = 0 <;> simp [beginS, hg, hi, hr, h0, hc])
  rw [HX1.out, HX2.out, HX3.out]
  go_enter Tryz.func69, Tryz.ntmps69
  go_wp2_with fail
  refine (regs_any ⟨11, cr, ch, cv, ca, cb, cc⟩ _ Hc.out).mono ?_
  rintro r w1 ⟨rfl, hb⟩
  rw [Hrg.out]
  have R1a := Lib.hid (row_below R1.out hb)
  have R2a := Lib.hid (row_below R2.out hb)
  have Ba := Lib.hid (below_only B0.out hb)
  clear hb
  obtain ⟨pa0, pa1, pa2, pa3, _, _, _, _⟩ := box4 R1a.out
  obtain ⟨ca0, ca1, ca2, ca3, ca4, ca5, ca6⟩ := box7 R2a.out
  have za := lt_of_heap R2a.out
  go_wp2_with fail
  refine (rgate11 ⟨ps, pt, pi, ph⟩ A k l cr ch cv ca cb cc h v _ hl (Cells.below He.out Ba.out) s0 s1 hv Hn.out).mono ?_
  rintro r w2 ⟨rfl, hb⟩
  dsimp only
  rw [HX1.out, HX2.out]
  clear pa0 pa1 pa2 pa3 ca0 ca1 ca2 ca3 ca4 ca5 ca6
  have Bb := Lib.hid (below_only Ba.out hb)
  clear hb
  go_wp2_with fail
  go_ret2
  exact ⟨rfl, Bb.out⟩

set_option maxRecDepth 100000 in
set_option maxHeartbeats 1000000 in
theorem rpcX (P : Pln) (A : Option Addr) (k : Nat) (l : List Ent) (co cr ch cv ca cb cc h v : Int) (w : World) (hl : l.length ≤ 1048576) (he : Ents w A l) (s0 : 1 ≤ P.s) (s1 : P.s ≤ 8) (hc : CalOk ⟨co, cr, ch, cv, ca, cb, cc⟩) (hh : 0 ≤ h ∧ h ≤ 18446744073709551615) (hv : 0 ≤ v ∧ v ≤ 18446744073709551615) (hX : 12 ≤ co) :
  Calls Tryz.prog 69 #[P.val, .slice A l.length k, (Cal.mk co cr ch cv ca cb cc).vl, .int .u64 h, .int .u64 v] w fun r w' => r = .returned (.tuple #[.int .i64 (beginS P.s l ⟨co, cr, ch, cv, ca, cb, cc⟩ h v).1, .int .i64 (if (beginS P.s l ⟨co, cr, ch, cv, ca, cb, cc⟩ h v).1 = 0 then (beginS P.s l ⟨co, cr, ch, cv, ca, cb, cc⟩ h v).2 else 0)]) ∧ Below w.heap.size w w' := by
 obtain ⟨ps, pt, pi, ph⟩ := P
 dsimp only at s0 s1 ⊢
 have He := Lib.hid he
 have Hc := Lib.hid hc
 clear he hc
 have R1 := Lib.hid (show ((w.alloc (.cells #[.int .i64 ps, .int .i64 pt, .int .i64 pi, .int .i64 ph] 28)).alloc (.cells #[.int .u8 co, .int .u8 cr, .int .u8 ch, .int .u8 cv, .int .i64 ca, .int .i64 cb, .int .i64 cc] 36)).heap[w.heap.size]? = some (.cells #[.int .i64 ps, .int .i64 pt, .int .i64 pi, .int .i64 ph] 28 (0, 0)) from row_alloc (row_new w _ _))
 have R2 := Lib.hid (show ((w.alloc (.cells #[.int .i64 ps, .int .i64 pt, .int .i64 pi, .int .i64 ph] 28)).alloc (.cells #[.int .u8 co, .int .u8 cr, .int .u8 ch, .int .u8 cv, .int .i64 ca, .int .i64 cb, .int .i64 cc] 36)).heap[w.heap.size + 1]? = some (.cells #[.int .u8 co, .int .u8 cr, .int .u8 ch, .int .u8 cv, .int .i64 ca, .int .i64 cb, .int .i64 cc] 36 (0, 0)) from row_at (by simp))
 have B0 := Lib.hid (show Below w.heap.size w ((w.alloc (.cells #[.int .i64 ps, .int .i64 pt, .int .i64 pi, .int .i64 ph] 28)).alloc (.cells #[.int .u8 co, .int .u8 cr, .int .u8 ch, .int .u8 cv, .int .i64 ca, .int .i64 cb, .int .i64 cc] 36)) by go_grown)
 have n0 : co ≠ 0 := by omega
 have n1 : co ≠ 1 := by omega
 have n2 : co ≠ 2 := by omega
 have n3 : co ≠ 3 := by omega
 have n4 : co ≠ 4 := by omega
 have n5 : co ≠ 5 := by omega
 have n6 : co ≠ 6 := by omega
 have n7 : co ≠ 7 := by omega
 have n8 : co ≠ 8 := by omega
 have n9 : co ≠ 9 := by omega
 have n10 : co ≠ 10 := by omega
 have n11 : co ≠ 11 := by omega
 have Hrg := Lib.hid (show regsS ⟨co, cr, ch, cv, ca, cb, cc⟩ = true by simp [regsS, n1, n7, n10, n8, n9, n11])
 have HV := Lib.hid (show beginS ps l ⟨co, cr, ch, cv, ca, cb, cc⟩ h v = (1, 0) by simp [beginS, n0, n1, n2, n3, n4, n5, n6, n7, n8, n9, n10, n11])
 rw [HV.out]
 simp only [reduceIte, Int.reduceEq]
 have d0 : (co == 0) = false := beq_false_of_ne (by omega)
 have d1 : (co == 1) = false := beq_false_of_ne (by omega)
 have d2 : (co == 2) = false := beq_false_of_ne (by omega)
 have d3 : (co == 3) = false := beq_false_of_ne (by omega)
 have d4 : (co == 4) = false := beq_false_of_ne (by omega)
 have d5 : (co == 5) = false := beq_false_of_ne (by omega)
 have d6 : (co == 6) = false := beq_false_of_ne (by omega)
 have d7 : (co == 7) = false := beq_false_of_ne (by omega)
 have d8 : (co == 8) = false := beq_false_of_ne (by omega)
 have d9 : (co == 9) = false := beq_false_of_ne (by omega)
 have d10 : (co == 10) = false := beq_false_of_ne (by omega)
 have d11 : (co == 11) = false := beq_false_of_ne (by omega)
 clear hX n0 n1 n2 n3 n4 n5 n6 n7 n8 n9 n10 n11
 go_enter Tryz.func69, Tryz.ntmps69
 go_wp2_with fail
 refine (regs_any ⟨co, cr, ch, cv, ca, cb, cc⟩ _ Hc.out).mono ?_
 rintro r w1 ⟨rfl, hb⟩
 rw [Hrg.out]
 have R1a := Lib.hid (row_below R1.out hb)
 have R2a := Lib.hid (row_below R2.out hb)
 have Ba := Lib.hid (below_only B0.out hb)
 clear hb
 obtain ⟨pa0, pa1, pa2, pa3, _, _, _, _⟩ := box4 R1a.out
 obtain ⟨ca0, ca1, ca2, ca3, ca4, ca5, ca6⟩ := box7 R2a.out
 have za := lt_of_heap R2a.out
 go_wp2_with fail
 go_ret2
 exact ⟨rfl, Ba.out⟩

theorem rpc_any (P : Pln) (A : Option Addr) (k : Nat) (l : List Ent) (c : Cal) (h v : Int) (w : World) (hl : l.length ≤ 1048576) (he : Ents w A l) (s0 : 1 ≤ P.s) (s1 : P.s ≤ 8) (hc : CalOk c) (hh : 0 ≤ h ∧ h ≤ 18446744073709551615) (hv : 0 ≤ v ∧ v ≤ 18446744073709551615) :
  Calls Tryz.prog 69 #[P.val, .slice A l.length k, c.vl, .int .u64 h, .int .u64 v] w fun r w' => r = .returned (.tuple #[.int .i64 (beginS P.s l c h v).1, .int .i64 (if (beginS P.s l c h v).1 = 0 then (beginS P.s l c h v).2 else 0)]) ∧ Below w.heap.size w w' := by
 have hop := hc.op
 obtain ⟨co, cr, ch, cv, ca, cb, cc⟩ := c
 dsimp only at hop
 by_cases hX : 12 ≤ co
 ·exact rpcX P A k l co cr ch cv ca cb cc h v w hl he s0 s1 hc hh hv hX
 have : co = 0 ∨ co = 1 ∨ co = 2 ∨ co = 3 ∨ co = 4 ∨ co = 5 ∨ co = 6 ∨ co = 7 ∨ co = 8 ∨ co = 9 ∨ co = 10 ∨ co = 11 := by omega
 rcases this with rfl | rfl | rfl | rfl | rfl | rfl | rfl | rfl | rfl | rfl | rfl | rfl
 ·exact rpc0 P A k l cr ch cv ca cb cc h v w hl he s0 s1 hc hh hv
 ·exact rpc1 P A k l cr ch cv ca cb cc h v w hl he s0 s1 hc hh hv
 ·exact rpc2 P A k l cr ch cv ca cb cc h v w hl he s0 s1 hc hh hv
 ·exact rpc3 P A k l cr ch cv ca cb cc h v w hl he s0 s1 hc hh hv
 ·exact rpc4 P A k l cr ch cv ca cb cc h v w hl he s0 s1 hc hh hv
 ·exact rpc5 P A k l cr ch cv ca cb cc h v w hl he s0 s1 hc hh hv
 ·exact rpc6 P A k l cr ch cv ca cb cc h v w hl he s0 s1 hc hh hv
 ·exact rpc7 P A k l cr ch cv ca cb cc h v w hl he s0 s1 hc hh hv
 ·exact rpc8 P A k l cr ch cv ca cb cc h v w hl he s0 s1 hc hh hv
 ·exact rpc9 P A k l cr ch cv ca cb cc h v w hl he s0 s1 hc hh hv
 ·exact rpc10 P A k l cr ch cv ca cb cc h v w hl he s0 s1 hc hh hv
 ·exact rpc11 P A k l cr ch cv ca cb cc h v w hl he s0 s1 hc hh hv

end Go.Proofs.YtnimaajnlkbdaaaGreat
