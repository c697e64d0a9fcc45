/- The law CtlEnters's walk, case by case. -/
import Derived.Test.YtgghnlmlgidooaaCtlStatesW
namespace Go.Proofs.Ytgghnlmlgidooaa
open Go.RowKit

set_option maxRecDepth 100000 in
set_option maxHeartbeats 4000000 in
theorem ctlEnters_free (s n p e m xn xp xe : Int) (w : World) (m0 : 0 ≤ m) (m1 : m ≤ 255) (HX : Hid (fit ⟨s, n, p, e⟩ = ⟨0, xn, xp, xe⟩)) (HE : Hid (enter ⟨0, xn, xp, xe⟩ (m % 8) = (⟨0, 0, 0, 0⟩, 11)))  :
    Calls Try.prog 6 #[.agg #[.int .i64 s, .int .i64 n, .int .i64 p, .int .i64 e], .int .u8 m] w fun e w' => e = .returned (.bool true) ∧ Below w.heap.size w w' := by
  have Hc := Lib.hid (show (w.alloc (.cells #[.int .i64 s, .int .i64 n, .int .i64 p, .int .i64 e] 23)).heap[w.heap.size]? = some (.cells #[.int .i64 s, .int .i64 n, .int .i64 p, .int .i64 e] 23 (0, 0)) from row_new _ _ _)
  have B0 : Below w.heap.size w (w.alloc (.cells #[.int .i64 s, .int .i64 n, .int .i64 p, .int .i64 e] 23)) := by go_grown
  go_enter Try.func6, Try.ntmps6
  go_wp2_with fail
  have BB := B0
  have Rc := Hc.out
  refine (shown_any _).mono ?_
  rintro e w1 ⟨rfl, hb⟩
  have B1 := below_only BB hb
  replace Rc := row_below Rc hb
  clear B0 BB hb Hc
  obtain ⟨c_0, c_1, c_2, c_3, c_f0, c_f1, c_f2, c_f3⟩ := box4 Rc
  have Hc := Lib.hid Rc; clear Rc
  have z_c := lt_of_heap Hc.out
  go_wp2_with fail
  have BB := B1
  have Rc := Hc.out
  clear c_0 c_1 c_2 c_3 c_f0 c_f1 c_f2 c_f3 z_c
  refine (fit_as HX _).mono ?_
  rintro e w2 ⟨rfl, hb⟩
  have B2 := below_only BB hb
  replace Rc := row_below Rc hb
  clear B1 BB hb Hc
  obtain ⟨c_0, c_1, c_2, c_3, c_f0, c_f1, c_f2, c_f3⟩ := box4 Rc
  have Hc := Lib.hid Rc; clear Rc
  have z_c := lt_of_heap Hc.out
  go_wp2_with fail
  have BB := (B2.alloc B2.size (.cells #[.int .i64 0, .int .i64 xn, .int .i64 xp, .int .i64 xe] 23))
  have Rc := row_alloc (o' := .cells #[.int .i64 0, .int .i64 xn, .int .i64 xp, .int .i64 xe] 23) (Hc.out)
  have Rx := row_new w2 #[.int .i64 0, .int .i64 xn, .int .i64 xp, .int .i64 xe] 23
  clear c_0 c_1 c_2 c_3 c_f0 c_f1 c_f2 c_f3 z_c
  refine (enter_as HE _).mono ?_
  rintro e w3 ⟨rfl, hb⟩
  have B3 := below_only BB hb
  replace Rc := row_below Rc hb
  replace Rx := row_below Rx hb
  clear B2 BB hb Hc
  obtain ⟨c_0, c_1, c_2, c_3, c_f0, c_f1, c_f2, c_f3⟩ := box4 Rc
  have Hc := Lib.hid Rc; clear Rc
  obtain ⟨x_0, x_1, x_2, x_3, x_f0, x_f1, x_f2, x_f3⟩ := box4 Rx
  have Hx := Lib.hid Rx; clear Rx
  have z_c := lt_of_heap Hc.out
  have z_x := lt_of_heap Hx.out
  go_wp2_with fail
  go_ret
  first | exact ⟨rfl, B3⟩ | exact ⟨rfl, B3.alloc B3.size _⟩

set_option maxRecDepth 100000 in
set_option maxHeartbeats 4000000 in
theorem ctlEnters_drain (s n p e m xn xp xe : Int) (w : World) (m0 : 0 ≤ m) (m1 : m ≤ 255) (HX : Hid (fit ⟨s, n, p, e⟩ = ⟨3, xn, xp, xe⟩)) (HE : Hid (enter ⟨3, xn, xp, xe⟩ (m % 8) = (⟨0, 0, 0, 0⟩, 10)))  :
    Calls Try.prog 6 #[.agg #[.int .i64 s, .int .i64 n, .int .i64 p, .int .i64 e], .int .u8 m] w fun e w' => e = .returned (.bool true) ∧ Below w.heap.size w w' := by
  have Hc := Lib.hid (show (w.alloc (.cells #[.int .i64 s, .int .i64 n, .int .i64 p, .int .i64 e] 23)).heap[w.heap.size]? = some (.cells #[.int .i64 s, .int .i64 n, .int .i64 p, .int .i64 e] 23 (0, 0)) from row_new _ _ _)
  have B0 : Below w.heap.size w (w.alloc (.cells #[.int .i64 s, .int .i64 n, .int .i64 p, .int .i64 e] 23)) := by go_grown
  go_enter Try.func6, Try.ntmps6
  go_wp2_with fail
  have BB := B0
  have Rc := Hc.out
  refine (shown_any _).mono ?_
  rintro e w1 ⟨rfl, hb⟩
  have B1 := below_only BB hb
  replace Rc := row_below Rc hb
  clear B0 BB hb Hc
  obtain ⟨c_0, c_1, c_2, c_3, c_f0, c_f1, c_f2, c_f3⟩ := box4 Rc
  have Hc := Lib.hid Rc; clear Rc
  have z_c := lt_of_heap Hc.out
  go_wp2_with fail
  have BB := B1
  have Rc := Hc.out
  clear c_0 c_1 c_2 c_3 c_f0 c_f1 c_f2 c_f3 z_c
  refine (fit_as HX _).mono ?_
  rintro e w2 ⟨rfl, hb⟩
  have B2 := below_only BB hb
  replace Rc := row_below Rc hb
  clear B1 BB hb Hc
  obtain ⟨c_0, c_1, c_2, c_3, c_f0, c_f1, c_f2, c_f3⟩ := box4 Rc
  have Hc := Lib.hid Rc; clear Rc
  have z_c := lt_of_heap Hc.out
  go_wp2_with fail
  have BB := (B2.alloc B2.size (.cells #[.int .i64 3, .int .i64 xn, .int .i64 xp, .int .i64 xe] 23))
  have Rc := row_alloc (o' := .cells #[.int .i64 3, .int .i64 xn, .int .i64 xp, .int .i64 xe] 23) (Hc.out)
  have Rx := row_new w2 #[.int .i64 3, .int .i64 xn, .int .i64 xp, .int .i64 xe] 23
  clear c_0 c_1 c_2 c_3 c_f0 c_f1 c_f2 c_f3 z_c
  refine (enter_as HE _).mono ?_
  rintro e w3 ⟨rfl, hb⟩
  have B3 := below_only BB hb
  replace Rc := row_below Rc hb
  replace Rx := row_below Rx hb
  clear B2 BB hb Hc
  obtain ⟨c_0, c_1, c_2, c_3, c_f0, c_f1, c_f2, c_f3⟩ := box4 Rc
  have Hc := Lib.hid Rc; clear Rc
  obtain ⟨x_0, x_1, x_2, x_3, x_f0, x_f1, x_f2, x_f3⟩ := box4 Rx
  have Hx := Lib.hid Rx; clear Rx
  have z_c := lt_of_heap Hc.out
  have z_x := lt_of_heap Hx.out
  go_wp2_with fail
  go_ret
  first | exact ⟨rfl, B3⟩ | exact ⟨rfl, B3.alloc B3.size _⟩

set_option maxRecDepth 100000 in
set_option maxHeartbeats 4000000 in
theorem ctlEnters_other (s n p e m xn xp xe : Int) (w : World) (m0 : 0 ≤ m) (m1 : m ≤ 255) (HX : Hid (fit ⟨s, n, p, e⟩ = ⟨2, xn, xp, xe⟩)) (HE : Hid (enter ⟨2, xn, xp, xe⟩ (m % 8) = (⟨0, 0, 0, 0⟩, 15))) (hp : (xp != m % 8) = true) :
    Calls Try.prog 6 #[.agg #[.int .i64 s, .int .i64 n, .int .i64 p, .int .i64 e], .int .u8 m] w fun e w' => e = .returned (.bool true) ∧ Below w.heap.size w w' := by
  have Hc := Lib.hid (show (w.alloc (.cells #[.int .i64 s, .int .i64 n, .int .i64 p, .int .i64 e] 23)).heap[w.heap.size]? = some (.cells #[.int .i64 s, .int .i64 n, .int .i64 p, .int .i64 e] 23 (0, 0)) from row_new _ _ _)
  have B0 : Below w.heap.size w (w.alloc (.cells #[.int .i64 s, .int .i64 n, .int .i64 p, .int .i64 e] 23)) := by go_grown
  go_enter Try.func6, Try.ntmps6
  go_wp2_with fail
  have BB := B0
  have Rc := Hc.out
  refine (shown_any _).mono ?_
  rintro e w1 ⟨rfl, hb⟩
  have B1 := below_only BB hb
  replace Rc := row_below Rc hb
  clear B0 BB hb Hc
  obtain ⟨c_0, c_1, c_2, c_3, c_f0, c_f1, c_f2, c_f3⟩ := box4 Rc
  have Hc := Lib.hid Rc; clear Rc
  have z_c := lt_of_heap Hc.out
  go_wp2_with fail
  have BB := B1
  have Rc := Hc.out
  clear c_0 c_1 c_2 c_3 c_f0 c_f1 c_f2 c_f3 z_c
  refine (fit_as HX _).mono ?_
  rintro e w2 ⟨rfl, hb⟩
  have B2 := below_only BB hb
  replace Rc := row_below Rc hb
  clear B1 BB hb Hc
  obtain ⟨c_0, c_1, c_2, c_3, c_f0, c_f1, c_f2, c_f3⟩ := box4 Rc
  have Hc := Lib.hid Rc; clear Rc
  have z_c := lt_of_heap Hc.out
  go_wp2_with fail
  have BB := (B2.alloc B2.size (.cells #[.int .i64 2, .int .i64 xn, .int .i64 xp, .int .i64 xe] 23))
  have Rc := row_alloc (o' := .cells #[.int .i64 2, .int .i64 xn, .int .i64 xp, .int .i64 xe] 23) (Hc.out)
  have Rx := row_new w2 #[.int .i64 2, .int .i64 xn, .int .i64 xp, .int .i64 xe] 23
  clear c_0 c_1 c_2 c_3 c_f0 c_f1 c_f2 c_f3 z_c
  refine (enter_as HE _).mono ?_
  rintro e w3 ⟨rfl, hb⟩
  have B3 := below_only BB hb
  replace Rc := row_below Rc hb
  replace Rx := row_below Rx hb
  clear B2 BB hb Hc
  obtain ⟨c_0, c_1, c_2, c_3, c_f0, c_f1, c_f2, c_f3⟩ := box4 Rc
  have Hc := Lib.hid Rc; clear Rc
  obtain ⟨x_0, x_1, x_2, x_3, x_f0, x_f1, x_f2, x_f3⟩ := box4 Rx
  have Hx := Lib.hid Rx; clear Rx
  have z_c := lt_of_heap Hc.out
  have z_x := lt_of_heap Hx.out
  go_wp2_with fail
  go_ret
  first | exact ⟨rfl, B3⟩ | exact ⟨rfl, B3.alloc B3.size _⟩

set_option maxRecDepth 100000 in
set_option maxHeartbeats 4000000 in
theorem ctlEnters_full (s n p e m xp xe : Int) (w : World) (m0 : 0 ≤ m) (m1 : m ≤ 255) (HX : Hid (fit ⟨s, n, p, e⟩ = ⟨2, 7, xp, xe⟩)) (HE : Hid (enter ⟨2, 7, xp, xe⟩ (m % 8) = (⟨0, 0, 0, 0⟩, 16))) (hp : (xp != m % 8) = false) :
    Calls Try.prog 6 #[.agg #[.int .i64 s, .int .i64 n, .int .i64 p, .int .i64 e], .int .u8 m] w fun e w' => e = .returned (.bool true) ∧ Below w.heap.size w w' := by
  have Hc := Lib.hid (show (w.alloc (.cells #[.int .i64 s, .int .i64 n, .int .i64 p, .int .i64 e] 23)).heap[w.heap.size]? = some (.cells #[.int .i64 s, .int .i64 n, .int .i64 p, .int .i64 e] 23 (0, 0)) from row_new _ _ _)
  have B0 : Below w.heap.size w (w.alloc (.cells #[.int .i64 s, .int .i64 n, .int .i64 p, .int .i64 e] 23)) := by go_grown
  go_enter Try.func6, Try.ntmps6
  go_wp2_with fail
  have BB := B0
  have Rc := Hc.out
  refine (shown_any _).mono ?_
  rintro e w1 ⟨rfl, hb⟩
  have B1 := below_only BB hb
  replace Rc := row_below Rc hb
  clear B0 BB hb Hc
  obtain ⟨c_0, c_1, c_2, c_3, c_f0, c_f1, c_f2, c_f3⟩ := box4 Rc
  have Hc := Lib.hid Rc; clear Rc
  have z_c := lt_of_heap Hc.out
  go_wp2_with fail
  have BB := B1
  have Rc := Hc.out
  clear c_0 c_1 c_2 c_3 c_f0 c_f1 c_f2 c_f3 z_c
  refine (fit_as HX _).mono ?_
  rintro e w2 ⟨rfl, hb⟩
  have B2 := below_only BB hb
  replace Rc := row_below Rc hb
  clear B1 BB hb Hc
  obtain ⟨c_0, c_1, c_2, c_3, c_f0, c_f1, c_f2, c_f3⟩ := box4 Rc
  have Hc := Lib.hid Rc; clear Rc
  have z_c := lt_of_heap Hc.out
  go_wp2_with fail
  have BB := (B2.alloc B2.size (.cells #[.int .i64 2, .int .i64 7, .int .i64 xp, .int .i64 xe] 23))
  have Rc := row_alloc (o' := .cells #[.int .i64 2, .int .i64 7, .int .i64 xp, .int .i64 xe] 23) (Hc.out)
  have Rx := row_new w2 #[.int .i64 2, .int .i64 7, .int .i64 xp, .int .i64 xe] 23
  clear c_0 c_1 c_2 c_3 c_f0 c_f1 c_f2 c_f3 z_c
  refine (enter_as HE _).mono ?_
  rintro e w3 ⟨rfl, hb⟩
  have B3 := below_only BB hb
  replace Rc := row_below Rc hb
  replace Rx := row_below Rx hb
  clear B2 BB hb Hc
  obtain ⟨c_0, c_1, c_2, c_3, c_f0, c_f1, c_f2, c_f3⟩ := box4 Rc
  have Hc := Lib.hid Rc; clear Rc
  obtain ⟨x_0, x_1, x_2, x_3, x_f0, x_f1, x_f2, x_f3⟩ := box4 Rx
  have Hx := Lib.hid Rx; clear Rx
  have z_c := lt_of_heap Hc.out
  have z_x := lt_of_heap Hx.out
  go_wp2_with fail
  go_ret
  first | exact ⟨rfl, B3⟩ | exact ⟨rfl, B3.alloc B3.size _⟩

set_option maxRecDepth 100000 in
set_option maxHeartbeats 4000000 in
theorem ctlEnters_live (s n p e m xn xe : Int) (w : World) (m0 : 0 ≤ m) (m1 : m ≤ 255) (HX : Hid (fit ⟨s, n, p, e⟩ = ⟨2, xn, (m % 8), xe⟩)) (HE : Hid (enter ⟨2, xn, m % 8, xe⟩ (m % 8) = (⟨2, xn + 1, m % 8, xe⟩, 0))) (HL : Hid (leave ⟨2, xn + 1, m % 8, xe⟩ = (⟨2, xn, m % 8, xe⟩, 0))) (HR : Hid (rightB ⟨2, xn + 1, m % 8, xe⟩ = true)) (HQ : Hid (rightB ⟨2, xn, m % 8, xe⟩ = true)) (n0 : 0 ≤ xn) (n7 : xn ≤ 7) :
    Calls Try.prog 6 #[.agg #[.int .i64 s, .int .i64 n, .int .i64 p, .int .i64 e], .int .u8 m] w fun e w' => e = .returned (.bool true) ∧ Below w.heap.size w w' := by
  have Hc := Lib.hid (show (w.alloc (.cells #[.int .i64 s, .int .i64 n, .int .i64 p, .int .i64 e] 23)).heap[w.heap.size]? = some (.cells #[.int .i64 s, .int .i64 n, .int .i64 p, .int .i64 e] 23 (0, 0)) from row_new _ _ _)
  have B0 : Below w.heap.size w (w.alloc (.cells #[.int .i64 s, .int .i64 n, .int .i64 p, .int .i64 e] 23)) := by go_grown
  go_enter Try.func6, Try.ntmps6
  go_wp2_with fail
  have BB := B0
  have Rc := Hc.out
  refine (shown_any _).mono ?_
  rintro e w1 ⟨rfl, hb⟩
  have B1 := below_only BB hb
  replace Rc := row_below Rc hb
  clear B0 BB hb Hc
  obtain ⟨c_0, c_1, c_2, c_3, c_f0, c_f1, c_f2, c_f3⟩ := box4 Rc
  have Hc := Lib.hid Rc; clear Rc
  have z_c := lt_of_heap Hc.out
  go_wp2_with fail
  have BB := B1
  have Rc := Hc.out
  clear c_0 c_1 c_2 c_3 c_f0 c_f1 c_f2 c_f3 z_c
  refine (fit_as HX _).mono ?_
  rintro e w2 ⟨rfl, hb⟩
  have B2 := below_only BB hb
  replace Rc := row_below Rc hb
  clear B1 BB hb Hc
  obtain ⟨c_0, c_1, c_2, c_3, c_f0, c_f1, c_f2, c_f3⟩ := box4 Rc
  have Hc := Lib.hid Rc; clear Rc
  have z_c := lt_of_heap Hc.out
  go_wp2_with fail
  have BB := (B2.alloc B2.size (.cells #[.int .i64 2, .int .i64 xn, .int .i64 (m % 8), .int .i64 xe] 23))
  have Rc := row_alloc (o' := .cells #[.int .i64 2, .int .i64 xn, .int .i64 (m % 8), .int .i64 xe] 23) (Hc.out)
  have Rx := row_new w2 #[.int .i64 2, .int .i64 xn, .int .i64 (m % 8), .int .i64 xe] 23
  clear c_0 c_1 c_2 c_3 c_f0 c_f1 c_f2 c_f3 z_c
  refine (enter_as HE _).mono ?_
  rintro e w3 ⟨rfl, hb⟩
  have B3 := below_only BB hb
  replace Rc := row_below Rc hb
  replace Rx := row_below Rx hb
  clear B2 BB hb Hc
  obtain ⟨c_0, c_1, c_2, c_3, c_f0, c_f1, c_f2, c_f3⟩ := box4 Rc
  have Hc := Lib.hid Rc; clear Rc
  obtain ⟨x_0, x_1, x_2, x_3, x_f0, x_f1, x_f2, x_f3⟩ := box4 Rx
  have Hx := Lib.hid Rx; clear Rx
  have z_c := lt_of_heap Hc.out
  have z_x := lt_of_heap Hx.out
  go_wp2_with fail
  have BB := (B3.alloc B3.size (.cells #[.int .i64 2, .int .i64 (xn + 1), .int .i64 (m % 8), .int .i64 xe] 23))
  have Rc := row_alloc (o' := .cells #[.int .i64 2, .int .i64 (xn + 1), .int .i64 (m % 8), .int .i64 xe] 23) (Hc.out)
  have Rx := row_alloc (o' := .cells #[.int .i64 2, .int .i64 (xn + 1), .int .i64 (m % 8), .int .i64 xe] 23) (Hx.out)
  have Ry := row_new w3 #[.int .i64 2, .int .i64 (xn + 1), .int .i64 (m % 8), .int .i64 xe] 23
  clear c_0 c_1 c_2 c_3 c_f0 c_f1 c_f2 c_f3 x_0 x_1 x_2 x_3 x_f0 x_f1 x_f2 x_f3 z_c z_x
  refine (leave_as HL _).mono ?_
  rintro e w4 ⟨rfl, hb⟩
  have B4 := below_only BB hb
  replace Rc := row_below Rc hb
  replace Rx := row_below Rx hb
  replace Ry := row_below Ry hb
  clear B3 BB hb Hc Hx
  obtain ⟨c_0, c_1, c_2, c_3, c_f0, c_f1, c_f2, c_f3⟩ := box4 Rc
  have Hc := Lib.hid Rc; clear Rc
  obtain ⟨x_0, x_1, x_2, x_3, x_f0, x_f1, x_f2, x_f3⟩ := box4 Rx
  have Hx := Lib.hid Rx; clear Rx
  obtain ⟨y_0, y_1, y_2, y_3, y_f0, y_f1, y_f2, y_f3⟩ := box4 Ry
  have Hy := Lib.hid Ry; clear Ry
  have z_c := lt_of_heap Hc.out
  have z_x := lt_of_heap Hx.out
  have z_y := lt_of_heap Hy.out
  go_wp2_with fail
  have BB := (B4.alloc B4.size (.cells #[.int .i64 2, .int .i64 xn, .int .i64 (m % 8), .int .i64 xe] 23))
  have Rc := row_alloc (o' := .cells #[.int .i64 2, .int .i64 xn, .int .i64 (m % 8), .int .i64 xe] 23) (Hc.out)
  have Rx := row_alloc (o' := .cells #[.int .i64 2, .int .i64 xn, .int .i64 (m % 8), .int .i64 xe] 23) (Hx.out)
  have Ry := row_alloc (o' := .cells #[.int .i64 2, .int .i64 xn, .int .i64 (m % 8), .int .i64 xe] 23) (Hy.out)
  have Rz := row_new w4 #[.int .i64 2, .int .i64 xn, .int .i64 (m % 8), .int .i64 xe] 23
  clear c_0 c_1 c_2 c_3 c_f0 c_f1 c_f2 c_f3 x_0 x_1 x_2 x_3 x_f0 x_f1 x_f2 x_f3 y_0 y_1 y_2 y_3 y_f0 y_f1 y_f2 y_f3 z_c z_x z_y
  refine (right_any _ _ _ _ _).mono ?_
  rintro e w5 ⟨rfl, hb⟩
  rw [HR.out]
  have B5 := below_only BB hb
  replace Rc := row_below Rc hb
  replace Rx := row_below Rx hb
  replace Ry := row_below Ry hb
  replace Rz := row_below Rz hb
  clear B4 BB hb Hc Hx Hy
  obtain ⟨c_0, c_1, c_2, c_3, c_f0, c_f1, c_f2, c_f3⟩ := box4 Rc
  have Hc := Lib.hid Rc; clear Rc
  obtain ⟨x_0, x_1, x_2, x_3, x_f0, x_f1, x_f2, x_f3⟩ := box4 Rx
  have Hx := Lib.hid Rx; clear Rx
  obtain ⟨y_0, y_1, y_2, y_3, y_f0, y_f1, y_f2, y_f3⟩ := box4 Ry
  have Hy := Lib.hid Ry; clear Ry
  obtain ⟨z_0, z_1, z_2, z_3, z_f0, z_f1, z_f2, z_f3⟩ := box4 Rz
  have Hz := Lib.hid Rz; clear Rz
  have z_c := lt_of_heap Hc.out
  have z_x := lt_of_heap Hx.out
  have z_y := lt_of_heap Hy.out
  have z_z := lt_of_heap Hz.out
  go_wp2_with fail
  have BB := B5
  have Rc := Hc.out
  have Rx := Hx.out
  have Ry := Hy.out
  have Rz := Hz.out
  clear c_0 c_1 c_2 c_3 c_f0 c_f1 c_f2 c_f3 x_0 x_1 x_2 x_3 x_f0 x_f1 x_f2 x_f3 y_0 y_1 y_2 y_3 y_f0 y_f1 y_f2 y_f3 z_0 z_1 z_2 z_3 z_f0 z_f1 z_f2 z_f3 z_c z_x z_y z_z
  refine (right_any _ _ _ _ _).mono ?_
  rintro e w6 ⟨rfl, hb⟩
  rw [HQ.out]
  have B6 := below_only BB hb
  replace Rc := row_below Rc hb
  replace Rx := row_below Rx hb
  replace Ry := row_below Ry hb
  replace Rz := row_below Rz hb
  clear B5 BB hb Hc Hx Hy Hz
  obtain ⟨c_0, c_1, c_2, c_3, c_f0, c_f1, c_f2, c_f3⟩ := box4 Rc
  have Hc := Lib.hid Rc; clear Rc
  obtain ⟨x_0, x_1, x_2, x_3, x_f0, x_f1, x_f2, x_f3⟩ := box4 Rx
  have Hx := Lib.hid Rx; clear Rx
  obtain ⟨y_0, y_1, y_2, y_3, y_f0, y_f1, y_f2, y_f3⟩ := box4 Ry
  have Hy := Lib.hid Ry; clear Ry
  obtain ⟨z_0, z_1, z_2, z_3, z_f0, z_f1, z_f2, z_f3⟩ := box4 Rz
  have Hz := Lib.hid Rz; clear Rz
  have z_c := lt_of_heap Hc.out
  have z_x := lt_of_heap Hx.out
  have z_y := lt_of_heap Hy.out
  have z_z := lt_of_heap Hz.out
  go_wp2_with fail
  go_ret
  first | exact ⟨rfl, B6⟩ | exact ⟨rfl, B6.alloc B6.size _⟩

set_option maxRecDepth 100000 in
set_option maxHeartbeats 4000000 in
theorem ctlEnters_idle (s n p e m xe : Int) (w : World) (m0 : 0 ≤ m) (m1 : m ≤ 255) (HX : Hid (fit ⟨s, n, p, e⟩ = ⟨1, 0, (-1), xe⟩)) (HE : Hid (enter ⟨1, 0, -1, xe⟩ (m % 8) = (⟨2, 1, m % 8, xe⟩, 0))) (HL : Hid (leave ⟨2, 1, m % 8, xe⟩ = (⟨3, 0, m % 8, xe⟩, 0))) (HR : Hid (rightB ⟨2, 1, m % 8, xe⟩ = true)) (HQ : Hid (rightB ⟨3, 0, m % 8, xe⟩ = true)) (HO : Hid (openC ⟨3, 0, m % 8, xe⟩ = (⟨1, 0, -1, (xe + 1) % 16777216⟩, 0))) (HK : Hid (hold ⟨3, 0, m % 8, xe⟩ = (⟨2, 1, m % 8, xe⟩, 0))) (HJ : Hid (openC ⟨2, 1, m % 8, xe⟩ = (⟨0, 0, 0, 0⟩, 11))) (HW : Hid (enter ⟨3, 0, m % 8, xe⟩ (m % 8) = (⟨0, 0, 0, 0⟩, 10))) (e0 : 0 ≤ xe) (e1 : xe ≤ 16777215) :
    Calls Try.prog 6 #[.agg #[.int .i64 s, .int .i64 n, .int .i64 p, .int .i64 e], .int .u8 m] w fun e w' => e = .returned (.bool true) ∧ Below w.heap.size w w' := by
  have Hc := Lib.hid (show (w.alloc (.cells #[.int .i64 s, .int .i64 n, .int .i64 p, .int .i64 e] 23)).heap[w.heap.size]? = some (.cells #[.int .i64 s, .int .i64 n, .int .i64 p, .int .i64 e] 23 (0, 0)) from row_new _ _ _)
  have B0 : Below w.heap.size w (w.alloc (.cells #[.int .i64 s, .int .i64 n, .int .i64 p, .int .i64 e] 23)) := by go_grown
  go_enter Try.func6, Try.ntmps6
  go_wp2_with fail
  have BB := B0
  have Rc := Hc.out
  refine (shown_any _).mono ?_
  rintro e w1 ⟨rfl, hb⟩
  have B1 := below_only BB hb
  replace Rc := row_below Rc hb
  clear B0 BB hb Hc
  obtain ⟨c_0, c_1, c_2, c_3, c_f0, c_f1, c_f2, c_f3⟩ := box4 Rc
  have Hc := Lib.hid Rc; clear Rc
  have z_c := lt_of_heap Hc.out
  go_wp2_with fail
  have BB := B1
  have Rc := Hc.out
  clear c_0 c_1 c_2 c_3 c_f0 c_f1 c_f2 c_f3 z_c
  refine (fit_as HX _).mono ?_
  rintro e w2 ⟨rfl, hb⟩
  have B2 := below_only BB hb
  replace Rc := row_below Rc hb
  clear B1 BB hb Hc
  obtain ⟨c_0, c_1, c_2, c_3, c_f0, c_f1, c_f2, c_f3⟩ := box4 Rc
  have Hc := Lib.hid Rc; clear Rc
  have z_c := lt_of_heap Hc.out
  go_wp2_with fail
  have BB := (B2.alloc B2.size (.cells #[.int .i64 1, .int .i64 0, .int .i64 (-1), .int .i64 xe] 23))
  have Rc := row_alloc (o' := .cells #[.int .i64 1, .int .i64 0, .int .i64 (-1), .int .i64 xe] 23) (Hc.out)
  have Rx := row_new w2 #[.int .i64 1, .int .i64 0, .int .i64 (-1), .int .i64 xe] 23
  clear c_0 c_1 c_2 c_3 c_f0 c_f1 c_f2 c_f3 z_c
  refine (enter_as HE _).mono ?_
  rintro e w3 ⟨rfl, hb⟩
  have B3 := below_only BB hb
  replace Rc := row_below Rc hb
  replace Rx := row_below Rx hb
  clear B2 BB hb Hc
  obtain ⟨c_0, c_1, c_2, c_3, c_f0, c_f1, c_f2, c_f3⟩ := box4 Rc
  have Hc := Lib.hid Rc; clear Rc
  obtain ⟨x_0, x_1, x_2, x_3, x_f0, x_f1, x_f2, x_f3⟩ := box4 Rx
  have Hx := Lib.hid Rx; clear Rx
  have z_c := lt_of_heap Hc.out
  have z_x := lt_of_heap Hx.out
  go_wp2_with fail
  have BB := (B3.alloc B3.size (.cells #[.int .i64 2, .int .i64 1, .int .i64 (m % 8), .int .i64 xe] 23))
  have Rc := row_alloc (o' := .cells #[.int .i64 2, .int .i64 1, .int .i64 (m % 8), .int .i64 xe] 23) (Hc.out)
  have Rx := row_alloc (o' := .cells #[.int .i64 2, .int .i64 1, .int .i64 (m % 8), .int .i64 xe] 23) (Hx.out)
  have Ry := row_new w3 #[.int .i64 2, .int .i64 1, .int .i64 (m % 8), .int .i64 xe] 23
  clear c_0 c_1 c_2 c_3 c_f0 c_f1 c_f2 c_f3 x_0 x_1 x_2 x_3 x_f0 x_f1 x_f2 x_f3 z_c z_x
  refine (leave_as HL _).mono ?_
  rintro e w4 ⟨rfl, hb⟩
  have B4 := below_only BB hb
  replace Rc := row_below Rc hb
  replace Rx := row_below Rx hb
  replace Ry := row_below Ry hb
  clear B3 BB hb Hc Hx
  obtain ⟨c_0, c_1, c_2, c_3, c_f0, c_f1, c_f2, c_f3⟩ := box4 Rc
  have Hc := Lib.hid Rc; clear Rc
  obtain ⟨x_0, x_1, x_2, x_3, x_f0, x_f1, x_f2, x_f3⟩ := box4 Rx
  have Hx := Lib.hid Rx; clear Rx
  obtain ⟨y_0, y_1, y_2, y_3, y_f0, y_f1, y_f2, y_f3⟩ := box4 Ry
  have Hy := Lib.hid Ry; clear Ry
  have z_c := lt_of_heap Hc.out
  have z_x := lt_of_heap Hx.out
  have z_y := lt_of_heap Hy.out
  go_wp2_with fail
  have BB := (B4.alloc B4.size (.cells #[.int .i64 3, .int .i64 0, .int .i64 (m % 8), .int .i64 xe] 23))
  have Rc := row_alloc (o' := .cells #[.int .i64 3, .int .i64 0, .int .i64 (m % 8), .int .i64 xe] 23) (Hc.out)
  have Rx := row_alloc (o' := .cells #[.int .i64 3, .int .i64 0, .int .i64 (m % 8), .int .i64 xe] 23) (Hx.out)
  have Ry := row_alloc (o' := .cells #[.int .i64 3, .int .i64 0, .int .i64 (m % 8), .int .i64 xe] 23) (Hy.out)
  have Rz := row_new w4 #[.int .i64 3, .int .i64 0, .int .i64 (m % 8), .int .i64 xe] 23
  clear c_0 c_1 c_2 c_3 c_f0 c_f1 c_f2 c_f3 x_0 x_1 x_2 x_3 x_f0 x_f1 x_f2 x_f3 y_0 y_1 y_2 y_3 y_f0 y_f1 y_f2 y_f3 z_c z_x z_y
  refine (right_any _ _ _ _ _).mono ?_
  rintro e w5 ⟨rfl, hb⟩
  rw [HR.out]
  have B5 := below_only BB hb
  replace Rc := row_below Rc hb
  replace Rx := row_below Rx hb
  replace Ry := row_below Ry hb
  replace Rz := row_below Rz hb
  clear B4 BB hb Hc Hx Hy
  obtain ⟨c_0, c_1, c_2, c_3, c_f0, c_f1, c_f2, c_f3⟩ := box4 Rc
  have Hc := Lib.hid Rc; clear Rc
  obtain ⟨x_0, x_1, x_2, x_3, x_f0, x_f1, x_f2, x_f3⟩ := box4 Rx
  have Hx := Lib.hid Rx; clear Rx
  obtain ⟨y_0, y_1, y_2, y_3, y_f0, y_f1, y_f2, y_f3⟩ := box4 Ry
  have Hy := Lib.hid Ry; clear Ry
  obtain ⟨z_0, z_1, z_2, z_3, z_f0, z_f1, z_f2, z_f3⟩ := box4 Rz
  have Hz := Lib.hid Rz; clear Rz
  have z_c := lt_of_heap Hc.out
  have z_x := lt_of_heap Hx.out
  have z_y := lt_of_heap Hy.out
  have z_z := lt_of_heap Hz.out
  go_wp2_with fail
  have BB := B5
  have Rc := Hc.out
  have Rx := Hx.out
  have Ry := Hy.out
  have Rz := Hz.out
  clear c_0 c_1 c_2 c_3 c_f0 c_f1 c_f2 c_f3 x_0 x_1 x_2 x_3 x_f0 x_f1 x_f2 x_f3 y_0 y_1 y_2 y_3 y_f0 y_f1 y_f2 y_f3 z_0 z_1 z_2 z_3 z_f0 z_f1 z_f2 z_f3 z_c z_x z_y z_z
  refine (right_any _ _ _ _ _).mono ?_
  rintro e w6 ⟨rfl, hb⟩
  rw [HQ.out]
  have B6 := below_only BB hb
  replace Rc := row_below Rc hb
  replace Rx := row_below Rx hb
  replace Ry := row_below Ry hb
  replace Rz := row_below Rz hb
  clear B5 BB hb Hc Hx Hy Hz
  obtain ⟨c_0, c_1, c_2, c_3, c_f0, c_f1, c_f2, c_f3⟩ := box4 Rc
  have Hc := Lib.hid Rc; clear Rc
  obtain ⟨x_0, x_1, x_2, x_3, x_f0, x_f1, x_f2, x_f3⟩ := box4 Rx
  have Hx := Lib.hid Rx; clear Rx
  obtain ⟨y_0, y_1, y_2, y_3, y_f0, y_f1, y_f2, y_f3⟩ := box4 Ry
  have Hy := Lib.hid Ry; clear Ry
  obtain ⟨z_0, z_1, z_2, z_3, z_f0, z_f1, z_f2, z_f3⟩ := box4 Rz
  have Hz := Lib.hid Rz; clear Rz
  have z_c := lt_of_heap Hc.out
  have z_x := lt_of_heap Hx.out
  have z_y := lt_of_heap Hy.out
  have z_z := lt_of_heap Hz.out
  go_wp2_with fail
  have BB := B6
  have Rx := Hx.out
  have Ry := Hy.out
  have Rz := Hz.out
  clear c_0 c_1 c_2 c_3 c_f0 c_f1 c_f2 c_f3 x_0 x_1 x_2 x_3 x_f0 x_f1 x_f2 x_f3 y_0 y_1 y_2 y_3 y_f0 y_f1 y_f2 y_f3 z_0 z_1 z_2 z_3 z_f0 z_f1 z_f2 z_f3 z_c z_x z_y z_z
  refine (open_as HO _).mono ?_
  rintro e w7 ⟨rfl, hb⟩
  have B7 := below_only BB hb
  replace Rx := row_below Rx hb
  replace Ry := row_below Ry hb
  replace Rz := row_below Rz hb
  clear B6 BB hb Hc Hx Hy Hz
  obtain ⟨x_0, x_1, x_2, x_3, x_f0, x_f1, x_f2, x_f3⟩ := box4 Rx
  have Hx := Lib.hid Rx; clear Rx
  obtain ⟨y_0, y_1, y_2, y_3, y_f0, y_f1, y_f2, y_f3⟩ := box4 Ry
  have Hy := Lib.hid Ry; clear Ry
  obtain ⟨z_0, z_1, z_2, z_3, z_f0, z_f1, z_f2, z_f3⟩ := box4 Rz
  have Hz := Lib.hid Rz; clear Rz
  have z_x := lt_of_heap Hx.out
  have z_y := lt_of_heap Hy.out
  have z_z := lt_of_heap Hz.out
  go_wp2_with fail
  have BB := (B7.alloc B7.size (.cells #[.int .i64 1, .int .i64 0, .int .i64 (-1), .int .i64 ((xe + 1) % 16777216)] 23))
  have Rx := row_alloc (o' := .cells #[.int .i64 1, .int .i64 0, .int .i64 (-1), .int .i64 ((xe + 1) % 16777216)] 23) (Hx.out)
  have Ry := row_alloc (o' := .cells #[.int .i64 1, .int .i64 0, .int .i64 (-1), .int .i64 ((xe + 1) % 16777216)] 23) (Hy.out)
  have Rz := row_alloc (o' := .cells #[.int .i64 1, .int .i64 0, .int .i64 (-1), .int .i64 ((xe + 1) % 16777216)] 23) (Hz.out)
  have Ro := row_new w7 #[.int .i64 1, .int .i64 0, .int .i64 (-1), .int .i64 ((xe + 1) % 16777216)] 23
  clear x_0 x_1 x_2 x_3 x_f0 x_f1 x_f2 x_f3 y_0 y_1 y_2 y_3 y_f0 y_f1 y_f2 y_f3 z_0 z_1 z_2 z_3 z_f0 z_f1 z_f2 z_f3 z_x z_y z_z
  refine (hold_as HK _).mono ?_
  rintro e w8 ⟨rfl, hb⟩
  have B8 := below_only BB hb
  replace Rx := row_below Rx hb
  replace Ry := row_below Ry hb
  replace Rz := row_below Rz hb
  replace Ro := row_below Ro hb
  clear B7 BB hb Hx Hy Hz
  obtain ⟨x_0, x_1, x_2, x_3, x_f0, x_f1, x_f2, x_f3⟩ := box4 Rx
  have Hx := Lib.hid Rx; clear Rx
  obtain ⟨y_0, y_1, y_2, y_3, y_f0, y_f1, y_f2, y_f3⟩ := box4 Ry
  have Hy := Lib.hid Ry; clear Ry
  obtain ⟨z_0, z_1, z_2, z_3, z_f0, z_f1, z_f2, z_f3⟩ := box4 Rz
  have Hz := Lib.hid Rz; clear Rz
  obtain ⟨o_0, o_1, o_2, o_3, o_f0, o_f1, o_f2, o_f3⟩ := box4 Ro
  have Ho := Lib.hid Ro; clear Ro
  have z_x := lt_of_heap Hx.out
  have z_y := lt_of_heap Hy.out
  have z_z := lt_of_heap Hz.out
  have z_o := lt_of_heap Ho.out
  go_wp2_with fail
  have BB := (B8.alloc B8.size (.cells #[.int .i64 2, .int .i64 1, .int .i64 (m % 8), .int .i64 xe] 23))
  have Rx := row_alloc (o' := .cells #[.int .i64 2, .int .i64 1, .int .i64 (m % 8), .int .i64 xe] 23) (Hx.out)
  have Ry := row_alloc (o' := .cells #[.int .i64 2, .int .i64 1, .int .i64 (m % 8), .int .i64 xe] 23) (Hy.out)
  have Rz := row_alloc (o' := .cells #[.int .i64 2, .int .i64 1, .int .i64 (m % 8), .int .i64 xe] 23) (Hz.out)
  have Ro := row_alloc (o' := .cells #[.int .i64 2, .int .i64 1, .int .i64 (m % 8), .int .i64 xe] 23) (Ho.out)
  have Rh := row_new w8 #[.int .i64 2, .int .i64 1, .int .i64 (m % 8), .int .i64 xe] 23
  clear x_0 x_1 x_2 x_3 x_f0 x_f1 x_f2 x_f3 y_0 y_1 y_2 y_3 y_f0 y_f1 y_f2 y_f3 z_0 z_1 z_2 z_3 z_f0 z_f1 z_f2 z_f3 o_0 o_1 o_2 o_3 o_f0 o_f1 o_f2 o_f3 z_x z_y z_z z_o
  refine (open_as HJ _).mono ?_
  rintro e w9 ⟨rfl, hb⟩
  have B9 := below_only BB hb
  replace Rx := row_below Rx hb
  replace Ry := row_below Ry hb
  replace Rz := row_below Rz hb
  replace Ro := row_below Ro hb
  replace Rh := row_below Rh hb
  clear B8 BB hb Hx Hy Hz Ho
  obtain ⟨x_0, x_1, x_2, x_3, x_f0, x_f1, x_f2, x_f3⟩ := box4 Rx
  have Hx := Lib.hid Rx; clear Rx
  obtain ⟨y_0, y_1, y_2, y_3, y_f0, y_f1, y_f2, y_f3⟩ := box4 Ry
  have Hy := Lib.hid Ry; clear Ry
  obtain ⟨z_0, z_1, z_2, z_3, z_f0, z_f1, z_f2, z_f3⟩ := box4 Rz
  have Hz := Lib.hid Rz; clear Rz
  obtain ⟨o_0, o_1, o_2, o_3, o_f0, o_f1, o_f2, o_f3⟩ := box4 Ro
  have Ho := Lib.hid Ro; clear Ro
  obtain ⟨h_0, h_1, h_2, h_3, h_f0, h_f1, h_f2, h_f3⟩ := box4 Rh
  have Hh := Lib.hid Rh; clear Rh
  have z_x := lt_of_heap Hx.out
  have z_y := lt_of_heap Hy.out
  have z_z := lt_of_heap Hz.out
  have z_o := lt_of_heap Ho.out
  have z_h := lt_of_heap Hh.out
  go_wp2_with fail
  have BB := (B9.alloc B9.size (.cells #[.int .i64 0, .int .i64 0, .int .i64 0, .int .i64 0] 23))
  have Rx := row_alloc (o' := .cells #[.int .i64 0, .int .i64 0, .int .i64 0, .int .i64 0] 23) (Hx.out)
  have Ry := row_alloc (o' := .cells #[.int .i64 0, .int .i64 0, .int .i64 0, .int .i64 0] 23) (Hy.out)
  have Rz := row_alloc (o' := .cells #[.int .i64 0, .int .i64 0, .int .i64 0, .int .i64 0] 23) (Hz.out)
  have Ro := row_alloc (o' := .cells #[.int .i64 0, .int .i64 0, .int .i64 0, .int .i64 0] 23) (Ho.out)
  have Rh := row_alloc (o' := .cells #[.int .i64 0, .int .i64 0, .int .i64 0, .int .i64 0] 23) (Hh.out)
  have Rj := row_new w9 #[.int .i64 0, .int .i64 0, .int .i64 0, .int .i64 0] 23
  clear x_0 x_1 x_2 x_3 x_f0 x_f1 x_f2 x_f3 y_0 y_1 y_2 y_3 y_f0 y_f1 y_f2 y_f3 z_0 z_1 z_2 z_3 z_f0 z_f1 z_f2 z_f3 o_0 o_1 o_2 o_3 o_f0 o_f1 o_f2 o_f3 h_0 h_1 h_2 h_3 h_f0 h_f1 h_f2 h_f3 z_x z_y z_z z_o z_h
  refine (enter_as HW _).mono ?_
  rintro e w10 ⟨rfl, hb⟩
  have B10 := below_only BB hb
  replace Rx := row_below Rx hb
  replace Ry := row_below Ry hb
  replace Rz := row_below Rz hb
  replace Ro := row_below Ro hb
  replace Rh := row_below Rh hb
  replace Rj := row_below Rj hb
  clear B9 BB hb Hx Hy Hz Ho Hh
  obtain ⟨x_0, x_1, x_2, x_3, x_f0, x_f1, x_f2, x_f3⟩ := box4 Rx
  have Hx := Lib.hid Rx; clear Rx
  obtain ⟨y_0, y_1, y_2, y_3, y_f0, y_f1, y_f2, y_f3⟩ := box4 Ry
  have Hy := Lib.hid Ry; clear Ry
  obtain ⟨z_0, z_1, z_2, z_3, z_f0, z_f1, z_f2, z_f3⟩ := box4 Rz
  have Hz := Lib.hid Rz; clear Rz
  obtain ⟨o_0, o_1, o_2, o_3, o_f0, o_f1, o_f2, o_f3⟩ := box4 Ro
  have Ho := Lib.hid Ro; clear Ro
  obtain ⟨h_0, h_1, h_2, h_3, h_f0, h_f1, h_f2, h_f3⟩ := box4 Rh
  have Hh := Lib.hid Rh; clear Rh
  obtain ⟨j_0, j_1, j_2, j_3, j_f0, j_f1, j_f2, j_f3⟩ := box4 Rj
  have Hj := Lib.hid Rj; clear Rj
  have z_x := lt_of_heap Hx.out
  have z_y := lt_of_heap Hy.out
  have z_z := lt_of_heap Hz.out
  have z_o := lt_of_heap Ho.out
  have z_h := lt_of_heap Hh.out
  have z_j := lt_of_heap Hj.out
  go_wp2_with fail
  go_ret
  first | exact ⟨rfl, B10⟩ | exact ⟨rfl, B10.alloc B10.size _⟩

end Go.Proofs.Ytgghnlmlgidooaa
