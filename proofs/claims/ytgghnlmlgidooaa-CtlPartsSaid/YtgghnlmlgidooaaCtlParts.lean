/- The law CtlParts's walk. -/
import Derived.Test.YtgghnlmlgidooaaCtlI
namespace Go.Proofs.Ytgghnlmlgidooaa
open Go.RowKit

set_option maxRecDepth 100000 in
set_option maxHeartbeats 4000000 in
theorem ctlParts_core (s n p e m : Int) (w : World) (m0 : 0 ≤ m) (m1 : m ≤ 255) :
    Calls Try.prog 3 #[.agg #[.int .i64 s, .int .i64 n, .int .i64 p, .int .i64 e], .int .u8 m] w fun e w' => e = .returned (.bool true) ∧ Below w.heap.size w w' := by
  obtain ⟨fs, fn, fp, fe, HF⟩ : ∃ a b c d, Hid (fit ⟨s, n, p, e⟩ = ⟨a, b, c, d⟩) := ⟨_, _, _, _, rfl⟩
  have hr : Right ⟨fs, fn, fp, fe⟩ := by rw [← HF.out]; exact fit_right _
  obtain ⟨a0, a1, b0, b1, c0, c1, d0, d1⟩ := right_bd hr
  simp only at a0 a1 b0 b1 c0 c1 d0 d1
  have hw : word ⟨fs, fn, fp, fe⟩ = fs + 4 * fn + 1024 * (fp + 1) + 262144 * fe := rfl
  obtain ⟨pv, hv⟩ : ∃ v, v = word ⟨fs, fn, fp, fe⟩ := ⟨_, rfl⟩
  have HP := Lib.hid (show pack ⟨fs, fn, fp, fe⟩ = (pv, 0) by rw [hv]; simp [pack, hr])
  have HQ := Lib.hid (show pack ⟨fs, 8 + m, fp, fe⟩ = (0, 1) by
    have : ¬ Right ⟨fs, 8 + m, fp, fe⟩ := fun h => by
      have := (right_bd h).2.2.2.1
      simp only at this
      omega
    simp [pack, this])
  rw [hw] at hv
  have v0 : 0 ≤ pv := by omega
  have v1 : pv < 4398046511104 := by omega
  have t1 : (pv % 4 == fs) = true := by simp; omega
  have t2 : (pv / 4 % 256 == fn) = true := by simp; omega
  have t3 : (pv / 1024 % 256 == fp + 1) = true := by simp; omega
  have t4 : (pv / 262144 == fe) = true := by simp; omega
  clear hv hw hr
  have Hc := Lib.hid (show (w.alloc (.cells #[.int .i64 s, .int .i64 n, .int .i64 p, .int .i64 e] 23)).heap[w.heap.size]? = some (.cells #[.int .i64 s, .int .i64 n, .int .i64 p, .int .i64 e] 23 (0, 0)) from row_new _ _ _)
  have B0 : Below w.heap.size w (w.alloc (.cells #[.int .i64 s, .int .i64 n, .int .i64 p, .int .i64 e] 23)) := by go_grown
  go_enter Try.func3, Try.ntmps3
  go_wp2_with fail
  have BB := B0
  have Rc := Hc.out
  refine (shown_any _).mono ?_
  rintro e w1 ⟨rfl, hb⟩
  have B1 := below_only BB hb
  replace Rc := row_below Rc hb
  clear B0 BB hb Hc
  obtain ⟨c_0, c_1, c_2, c_3, c_f0, c_f1, c_f2, c_f3⟩ := box4 Rc
  have Hc := Lib.hid Rc; clear Rc
  have z_c := lt_of_heap Hc.out
  go_wp2_with fail
  have BB := B1
  have Rc := Hc.out
  clear c_0 c_1 c_2 c_3 c_f0 c_f1 c_f2 c_f3 z_c
  refine (fit_as HF _).mono ?_
  rintro e w2 ⟨rfl, hb⟩
  have B2 := below_only BB hb
  replace Rc := row_below Rc hb
  clear B1 BB hb Hc
  obtain ⟨c_0, c_1, c_2, c_3, c_f0, c_f1, c_f2, c_f3⟩ := box4 Rc
  have Hc := Lib.hid Rc; clear Rc
  have z_c := lt_of_heap Hc.out
  go_wp2_with fail
  have BB := (B2.alloc B2.size (.cells #[.int .i64 fs, .int .i64 fn, .int .i64 fp, .int .i64 fe] 23))
  have Rc := row_alloc (o' := .cells #[.int .i64 fs, .int .i64 fn, .int .i64 fp, .int .i64 fe] 23) (Hc.out)
  have Rx := row_new w2 #[.int .i64 fs, .int .i64 fn, .int .i64 fp, .int .i64 fe] 23
  clear c_0 c_1 c_2 c_3 c_f0 c_f1 c_f2 c_f3 z_c
  refine (pack_as HP _).mono ?_
  rintro e w3 ⟨rfl, hb⟩
  have B3 := below_only BB hb
  replace Rc := row_below Rc hb
  replace Rx := row_below Rx hb
  clear B2 BB hb Hc
  obtain ⟨c_0, c_1, c_2, c_3, c_f0, c_f1, c_f2, c_f3⟩ := box4 Rc
  have Hc := Lib.hid Rc; clear Rc
  obtain ⟨x_0, x_1, x_2, x_3, x_f0, x_f1, x_f2, x_f3⟩ := box4 Rx
  have Hx := Lib.hid Rx; clear Rx
  have z_c := lt_of_heap Hc.out
  have z_x := lt_of_heap Hx.out
  go_wp2_with fail
  have BB := (B3.alloc B3.size (.cells #[.int .i64 fs, .int .i64 (8 + m), .int .i64 fp, .int .i64 fe] 23))
  have Rc := row_alloc (o' := .cells #[.int .i64 fs, .int .i64 (8 + m), .int .i64 fp, .int .i64 fe] 23) (Hc.out)
  have Rx := row_alloc (o' := .cells #[.int .i64 fs, .int .i64 (8 + m), .int .i64 fp, .int .i64 fe] 23) (Hx.out)
  have Ry := row_new w3 #[.int .i64 fs, .int .i64 (8 + m), .int .i64 fp, .int .i64 fe] 23
  clear c_0 c_1 c_2 c_3 c_f0 c_f1 c_f2 c_f3 x_0 x_1 x_2 x_3 x_f0 x_f1 x_f2 x_f3 z_c z_x
  refine (pack_as HQ _).mono ?_
  rintro e w4 ⟨rfl, hb⟩
  have B4 := below_only BB hb
  replace Rc := row_below Rc hb
  replace Rx := row_below Rx hb
  replace Ry := row_below Ry hb
  clear B3 BB hb Hc Hx
  obtain ⟨c_0, c_1, c_2, c_3, c_f0, c_f1, c_f2, c_f3⟩ := box4 Rc
  have Hc := Lib.hid Rc; clear Rc
  obtain ⟨x_0, x_1, x_2, x_3, x_f0, x_f1, x_f2, x_f3⟩ := box4 Rx
  have Hx := Lib.hid Rx; clear Rx
  obtain ⟨y_0, y_1, y_2, y_3, y_f0, y_f1, y_f2, y_f3⟩ := box4 Ry
  have Hy := Lib.hid Ry; clear Ry
  have z_c := lt_of_heap Hc.out
  have z_x := lt_of_heap Hx.out
  have z_y := lt_of_heap Hy.out
  go_wp2_with fail
  go_ret
  exact ⟨rfl, B4⟩

theorem ctlParts_walk (s n p e m : Int) (w : World) (_ : (Lit.int .i64 s).wf = true) (_ : (Lit.int .i64 n).wf = true) (_ : (Lit.int .i64 p).wf = true) (_ : (Lit.int .i64 e).wf = true) (hm : (Lit.int .u8 m).wf = true) :
    Calls Try.prog 3 #[.agg #[.int .i64 s, .int .i64 n, .int .i64 p, .int .i64 e], .int .u8 m] w fun e w' => e = .returned (.bool true) ∧ Below w.heap.size w w' :=
  ctlParts_core s n p e m w (wf_u8 hm).1 (wf_u8 hm).2

end Go.Proofs.Ytgghnlmlgidooaa
