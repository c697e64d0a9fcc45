/- The walk of the document's pc (layer 13), op by op. -/
import Derived.Test.YtbijaloeilnjoaaGreatBRefA
namespace Go.Proofs.YtbijaloeilnjoaaGreat
open Go.RowKit
set_option linter.unusedVariables false
set_option linter.unusedSimpArgs false


set_option maxRecDepth 100000 in
set_option maxHeartbeats 1000000 in
theorem rpc2 (P : Pln) (A : Option Addr) (k : Nat) (l : List Ent) (cr ch cv ca cb cc h v : Int) (w : World) (hl : l.length ≤ 1048576) (he : Ents w A l) (s0 : 1 ≤ P.s) (s1 : P.s ≤ 8) (hc : CalOk ⟨2, cr, ch, cv, ca, cb, cc⟩) (hh : 0 ≤ h ∧ h ≤ 18446744073709551615) (hv : 0 ≤ v ∧ v ≤ 18446744073709551615) :
  Calls Tryz.prog 74 #[P.val, .slice A l.length k, (Cal.mk 2 cr ch cv ca cb cc).vl, .int .u64 h, .int .u64 v] w fun r w' => r = .returned (.tuple #[.int .i64 (beginS P.s l ⟨2, cr, ch, cv, ca, cb, cc⟩ h v).1, .int .i64 (if (beginS P.s l ⟨2, cr, ch, cv, ca, cb, cc⟩ h v).1 = 0 then (beginS P.s l ⟨2, cr, ch, cv, ca, cb, cc⟩ h v).2 else 0)]) ∧ Below w.heap.size w w' := by
 obtain ⟨ps, pt, pi, ph⟩ := P
 dsimp only at s0 s1 ⊢
 have He := Lib.hid he
 have Hc := Lib.hid hc
 clear he hc
 have R1 := Lib.hid (show ((w.alloc (.cells #[.int .i64 ps, .int .i64 pt, .int .i64 pi, .int .i64 ph] 48)).alloc (.cells #[.int .u8 2, .int .u8 cr, .int .u8 ch, .int .u8 cv, .int .i64 ca, .int .i64 cb, .int .i64 cc] 35)).heap[w.heap.size]? = some (.cells #[.int .i64 ps, .int .i64 pt, .int .i64 pi, .int .i64 ph] 48 (0, 0)) from row_alloc (row_new w _ _))
 have R2 := Lib.hid (show ((w.alloc (.cells #[.int .i64 ps, .int .i64 pt, .int .i64 pi, .int .i64 ph] 48)).alloc (.cells #[.int .u8 2, .int .u8 cr, .int .u8 ch, .int .u8 cv, .int .i64 ca, .int .i64 cb, .int .i64 cc] 35)).heap[w.heap.size + 1]? = some (.cells #[.int .u8 2, .int .u8 cr, .int .u8 ch, .int .u8 cv, .int .i64 ca, .int .i64 cb, .int .i64 cc] 35 (0, 0)) from row_at (by simp))
 have B0 := Lib.hid (show Below w.heap.size w ((w.alloc (.cells #[.int .i64 ps, .int .i64 pt, .int .i64 pi, .int .i64 ph] 48)).alloc (.cells #[.int .u8 2, .int .u8 cr, .int .u8 ch, .int .u8 cv, .int .i64 ca, .int .i64 cb, .int .i64 cc] 35)) by go_grown)
 by_cases h1 : ca < 1
 ·have d1 : decide (ca < 1) = true := decide_eq_true (by omega)
  have hi : inB ca 1 8192 = false := inB_f (by omega)
  have Hrg := Lib.hid (show regsS ⟨2, cr, ch, cv, ca, cb, cc⟩ = true by simp [regsS, hi])
  have HV := Lib.hid (show beginS ps l ⟨2, cr, ch, cv, ca, cb, cc⟩ h v = (1, 0) by simp [beginS, hi])
  rw [HV.out]
  simp only [reduceIte, Int.reduceEq]
  go_enter Tryz.func74, Tryz.ntmps74
  go_wp2_with fail
  refine (regs_any ⟨2, cr, ch, cv, ca, cb, cc⟩ _ Hc.out).mono ?_
  rintro r w1 ⟨rfl, hb⟩
  rw [Hrg.out]
  have R1a := Lib.hid (row_below R1.out hb)
  have R2a := Lib.hid (row_below R2.out hb)
  have Ba := Lib.hid (below_only B0.out hb)
  clear hb
  obtain ⟨pa0, pa1, pa2, pa3, _, _, _, _⟩ := box4 R1a.out
  obtain ⟨ca0, ca1, ca2, ca3, ca4, ca5, ca6⟩ := box7 R2a.out
  have za := lt_of_heap R2a.out
  go_wp2_with fail
  go_ret2
  exact ⟨rfl, Ba.out⟩
 ·by_cases h2 : ca ≤ 8192
  ·have d1 : decide (ca < 1) = false := decide_eq_false (by omega)
   have d2 : decide (ca > 8192) = false := decide_eq_false (by omega)
   have d3 : decide (8192 < ca) = false := decide_eq_false (by omega)
   have hi : inB ca 1 8192 = true := inB_t (by omega)
   have Hrg := Lib.hid (show regsS ⟨2, cr, ch, cv, ca, cb, cc⟩ = true by simp [regsS, hi])
   have HV := Lib.hid (show beginS ps l ⟨2, cr, ch, cv, ca, cb, cc⟩ h v = (0, 1) by simp [beginS, hi])
   rw [HV.out]
   simp only [reduceIte, Int.reduceEq]
   go_enter Tryz.func74, Tryz.ntmps74
   go_wp2_with fail
   refine (regs_any ⟨2, cr, ch, cv, ca, cb, cc⟩ _ Hc.out).mono ?_
   rintro r w1 ⟨rfl, hb⟩
   rw [Hrg.out]
   have R1a := Lib.hid (row_below R1.out hb)
   have R2a := Lib.hid (row_below R2.out hb)
   have Ba := Lib.hid (below_only B0.out hb)
   clear hb
   obtain ⟨pa0, pa1, pa2, pa3, _, _, _, _⟩ := box4 R1a.out
   obtain ⟨ca0, ca1, ca2, ca3, ca4, ca5, ca6⟩ := box7 R2a.out
   have za := lt_of_heap R2a.out
   go_wp2_with fail
   go_ret2
   exact ⟨rfl, Ba.out⟩
  ·have d1 : decide (ca < 1) = false := decide_eq_false (by omega)
   have d2 : decide (ca > 8192) = true := decide_eq_true (by omega)
   have d3 : decide (8192 < ca) = true := decide_eq_true (by omega)
   have hi : inB ca 1 8192 = false := inB_f (by omega)
   have Hrg := Lib.hid (show regsS ⟨2, cr, ch, cv, ca, cb, cc⟩ = true by simp [regsS, hi])
   have HV := Lib.hid (show beginS ps l ⟨2, cr, ch, cv, ca, cb, cc⟩ h v = (1, 0) by simp [beginS, hi])
   rw [HV.out]
   simp only [reduceIte, Int.reduceEq]
   go_enter Tryz.func74, Tryz.ntmps74
   go_wp2_with fail
   refine (regs_any ⟨2, cr, ch, cv, ca, cb, cc⟩ _ Hc.out).mono ?_
   rintro r w1 ⟨rfl, hb⟩
   rw [Hrg.out]
   have R1a := Lib.hid (row_below R1.out hb)
   have R2a := Lib.hid (row_below R2.out hb)
   have Ba := Lib.hid (below_only B0.out hb)
   clear hb
   obtain ⟨pa0, pa1, pa2, pa3, _, _, _, _⟩ := box4 R1a.out
   obtain ⟨ca0, ca1, ca2, ca3, ca4, ca5, ca6⟩ := box7 R2a.out
   have za := lt_of_heap R2a.out
   go_wp2_with fail
   go_ret2
   exact ⟨rfl, Ba.out⟩



set_option maxRecDepth 100000 in
set_option maxHeartbeats 1000000 in
theorem rpc5 (P : Pln) (A : Option Addr) (k : Nat) (l : List Ent) (cr ch cv ca cb cc h v : Int) (w : World) (hl : l.length ≤ 1048576) (he : Ents w A l) (s0 : 1 ≤ P.s) (s1 : P.s ≤ 8) (hc : CalOk ⟨5, cr, ch, cv, ca, cb, cc⟩) (hh : 0 ≤ h ∧ h ≤ 18446744073709551615) (hv : 0 ≤ v ∧ v ≤ 18446744073709551615) :
  Calls Tryz.prog 74 #[P.val, .slice A l.length k, (Cal.mk 5 cr ch cv ca cb cc).vl, .int .u64 h, .int .u64 v] w fun r w' => r = .returned (.tuple #[.int .i64 (beginS P.s l ⟨5, cr, ch, cv, ca, cb, cc⟩ h v).1, .int .i64 (if (beginS P.s l ⟨5, cr, ch, cv, ca, cb, cc⟩ h v).1 = 0 then (beginS P.s l ⟨5, cr, ch, cv, ca, cb, cc⟩ h v).2 else 0)]) ∧ Below w.heap.size w w' := by
 obtain ⟨ps, pt, pi, ph⟩ := P
 dsimp only at s0 s1 ⊢
 have He := Lib.hid he
 have Hc := Lib.hid hc
 clear he hc
 have R1 := Lib.hid (show ((w.alloc (.cells #[.int .i64 ps, .int .i64 pt, .int .i64 pi, .int .i64 ph] 48)).alloc (.cells #[.int .u8 5, .int .u8 cr, .int .u8 ch, .int .u8 cv, .int .i64 ca, .int .i64 cb, .int .i64 cc] 35)).heap[w.heap.size]? = some (.cells #[.int .i64 ps, .int .i64 pt, .int .i64 pi, .int .i64 ph] 48 (0, 0)) from row_alloc (row_new w _ _))
 have R2 := Lib.hid (show ((w.alloc (.cells #[.int .i64 ps, .int .i64 pt, .int .i64 pi, .int .i64 ph] 48)).alloc (.cells #[.int .u8 5, .int .u8 cr, .int .u8 ch, .int .u8 cv, .int .i64 ca, .int .i64 cb, .int .i64 cc] 35)).heap[w.heap.size + 1]? = some (.cells #[.int .u8 5, .int .u8 cr, .int .u8 ch, .int .u8 cv, .int .i64 ca, .int .i64 cb, .int .i64 cc] 35 (0, 0)) from row_at (by simp))
 have B0 := Lib.hid (show Below w.heap.size w ((w.alloc (.cells #[.int .i64 ps, .int .i64 pt, .int .i64 pi, .int .i64 ph] 48)).alloc (.cells #[.int .u8 5, .int .u8 cr, .int .u8 ch, .int .u8 cv, .int .i64 ca, .int .i64 cb, .int .i64 cc] 35)) by go_grown)
 have Hrg := Lib.hid (show regsS ⟨5, cr, ch, cv, ca, cb, cc⟩ = true by simp [regsS])
 obtain ⟨x1, HX1⟩ : ∃ x, Hid ((exitS l).1 = x) := ⟨_, Lib.hid rfl⟩
 obtain ⟨x2, HX2⟩ : ∃ x, Hid ((exitS l).2 = x) := ⟨_, Lib.hid rfl⟩
 have HX0 := Lib.hid (show beginS ps l ⟨5, cr, ch, cv, ca, cb, cc⟩ h v = (x1, x2) by rw [← HX1.out, ← HX2.out]; rfl)
 have HX3 := Lib.hid (show (if x1 = 0 then x2 else 0) = x2 by rw [← HX1.out, ← HX2.out]; unfold exitS; (repeat' split) <;> simp_all)
 rw [HX0.out]
 dsimp only
 rw [HX3.out]
 go_enter Tryz.func74, Tryz.ntmps74
 go_wp2_with fail
 refine (regs_any ⟨5, cr, ch, cv, ca, cb, cc⟩ _ Hc.out).mono ?_
 rintro r w1 ⟨rfl, hb⟩
 rw [Hrg.out]
 have R1a := Lib.hid (row_below R1.out hb)
 have R2a := Lib.hid (row_below R2.out hb)
 have Ba := Lib.hid (below_only B0.out hb)
 clear hb
 obtain ⟨pa0, pa1, pa2, pa3, _, _, _, _⟩ := box4 R1a.out
 obtain ⟨ca0, ca1, ca2, ca3, ca4, ca5, ca6⟩ := box7 R2a.out
 have za := lt_of_heap R2a.out
 go_wp2_with fail
 refine (rexit_any A k l _ hl (Cells.below He.out Ba.out)).mono ?_
 rintro r w2 ⟨rfl, rfl⟩
 rw [HX1.out, HX2.out]
 go_wp2_with fail
 go_ret2
 exact ⟨rfl, Ba.out⟩








theorem rpc_any (P : Pln) (A : Option Addr) (k : Nat) (l : List Ent) (c : Cal) (h v : Int) (w : World) (hl : l.length ≤ 1048576) (he : Ents w A l) (s0 : 1 ≤ P.s) (s1 : P.s ≤ 8) (hc : CalOk c) (hh : 0 ≤ h ∧ h ≤ 18446744073709551615) (hv : 0 ≤ v ∧ v ≤ 18446744073709551615) (h25 : c.op = 2 ∨ c.op = 5) :
  Calls Tryz.prog 74 #[P.val, .slice A l.length k, c.vl, .int .u64 h, .int .u64 v] w fun r w' => r = .returned (.tuple #[.int .i64 (beginS P.s l c h v).1, .int .i64 (if (beginS P.s l c h v).1 = 0 then (beginS P.s l c h v).2 else 0)]) ∧ Below w.heap.size w w' := by
 obtain ⟨co, cr, ch, cv, ca, cb, cc⟩ := c
 dsimp only at h25
 rcases h25 with rfl | rfl
 ·exact rpc2 P A k l cr ch cv ca cb cc h v w hl he s0 s1 hc hh hv
 ·exact rpc5 P A k l cr ch cv ca cb cc h v w hl he s0 s1 hc hh hv

end Go.Proofs.YtbijaloeilnjoaaGreat
