/- The law CtlStates's walk. -/
import Derived.Test.YtgghnlmlgidooaaCtlI
namespace Go.Proofs.Ytgghnlmlgidooaa
open Go.RowKit

set_option maxRecDepth 100000 in
set_option maxHeartbeats 4000000 in
theorem ctlStates_none (s n p e m : Int) (w : World) (m0 : 0 ≤ m) (m1 : m ≤ 255) (HE : Hid (enter ⟨s, n, p, e⟩ (m % 8) = (⟨0, 0, 0, 0⟩, 1))) (HL : Hid (leave ⟨s, n, p, e⟩ = (⟨0, 0, 0, 0⟩, 1))) (HO : Hid (openC ⟨s, n, p, e⟩ = (⟨0, 0, 0, 0⟩, 1))) (HK : Hid (hold ⟨s, n, p, e⟩ = (⟨0, 0, 0, 0⟩, 1))) (HR : Hid (rightB ⟨s, n, p, e⟩ = false)) :
    Calls Try.prog 7 #[.agg #[.int .i64 s, .int .i64 n, .int .i64 p, .int .i64 e], .int .u8 m] w fun e w' => e = .returned (.bool true) ∧ Below w.heap.size w w' := by
  have Hc := Lib.hid (show (w.alloc (.cells #[.int .i64 s, .int .i64 n, .int .i64 p, .int .i64 e] 23)).heap[w.heap.size]? = some (.cells #[.int .i64 s, .int .i64 n, .int .i64 p, .int .i64 e] 23 (0, 0)) from row_new _ _ _)
  have B0 : Below w.heap.size w (w.alloc (.cells #[.int .i64 s, .int .i64 n, .int .i64 p, .int .i64 e] 23)) := by go_grown
  go_enter Try.func7, Try.ntmps7
  go_wp2_with fail
  have BB := B0
  have Rc := Hc.out
  refine (shown_any _).mono ?_
  rintro e w1 ⟨rfl, hb⟩
  have B1 := below_only BB hb
  replace Rc := row_below Rc hb
  clear B0 BB hb Hc
  obtain ⟨c_0, c_1, c_2, c_3, c_f0, c_f1, c_f2, c_f3⟩ := box4 Rc
  have Hc := Lib.hid Rc; clear Rc
  have z_c := lt_of_heap Hc.out
  go_wp2_with fail
  have BB := B1
  have Rc := Hc.out
  clear c_0 c_1 c_2 c_3 c_f0 c_f1 c_f2 c_f3 z_c
  refine (enter_as HE _).mono ?_
  rintro e w2 ⟨rfl, hb⟩
  have B2 := below_only BB hb
  replace Rc := row_below Rc hb
  clear B1 BB hb Hc
  obtain ⟨c_0, c_1, c_2, c_3, c_f0, c_f1, c_f2, c_f3⟩ := box4 Rc
  have Hc := Lib.hid Rc; clear Rc
  have z_c := lt_of_heap Hc.out
  go_wp2_with fail
  have BB := (B2.alloc B2.size (.cells #[.int .i64 0, .int .i64 0, .int .i64 0, .int .i64 0] 23))
  have Rc := row_alloc (o' := .cells #[.int .i64 0, .int .i64 0, .int .i64 0, .int .i64 0] 23) (Hc.out)
  have Ra := row_new w2 #[.int .i64 0, .int .i64 0, .int .i64 0, .int .i64 0] 23
  clear c_0 c_1 c_2 c_3 c_f0 c_f1 c_f2 c_f3 z_c
  refine (leave_as HL _).mono ?_
  rintro e w3 ⟨rfl, hb⟩
  have B3 := below_only BB hb
  replace Rc := row_below Rc hb
  replace Ra := row_below Ra hb
  clear B2 BB hb Hc
  obtain ⟨c_0, c_1, c_2, c_3, c_f0, c_f1, c_f2, c_f3⟩ := box4 Rc
  have Hc := Lib.hid Rc; clear Rc
  obtain ⟨a_0, a_1, a_2, a_3, a_f0, a_f1, a_f2, a_f3⟩ := box4 Ra
  have Ha := Lib.hid Ra; clear Ra
  have z_c := lt_of_heap Hc.out
  have z_a := lt_of_heap Ha.out
  go_wp2_with fail
  have BB := (B3.alloc B3.size (.cells #[.int .i64 0, .int .i64 0, .int .i64 0, .int .i64 0] 23))
  have Rc := row_alloc (o' := .cells #[.int .i64 0, .int .i64 0, .int .i64 0, .int .i64 0] 23) (Hc.out)
  have Ra := row_alloc (o' := .cells #[.int .i64 0, .int .i64 0, .int .i64 0, .int .i64 0] 23) (Ha.out)
  have Rb := row_new w3 #[.int .i64 0, .int .i64 0, .int .i64 0, .int .i64 0] 23
  clear c_0 c_1 c_2 c_3 c_f0 c_f1 c_f2 c_f3 a_0 a_1 a_2 a_3 a_f0 a_f1 a_f2 a_f3 z_c z_a
  refine (open_as HO _).mono ?_
  rintro e w4 ⟨rfl, hb⟩
  have B4 := below_only BB hb
  replace Rc := row_below Rc hb
  replace Ra := row_below Ra hb
  replace Rb := row_below Rb hb
  clear B3 BB hb Hc Ha
  obtain ⟨c_0, c_1, c_2, c_3, c_f0, c_f1, c_f2, c_f3⟩ := box4 Rc
  have Hc := Lib.hid Rc; clear Rc
  obtain ⟨a_0, a_1, a_2, a_3, a_f0, a_f1, a_f2, a_f3⟩ := box4 Ra
  have Ha := Lib.hid Ra; clear Ra
  obtain ⟨b_0, b_1, b_2, b_3, b_f0, b_f1, b_f2, b_f3⟩ := box4 Rb
  have Hb := Lib.hid Rb; clear Rb
  have z_c := lt_of_heap Hc.out
  have z_a := lt_of_heap Ha.out
  have z_b := lt_of_heap Hb.out
  go_wp2_with fail
  have BB := (B4.alloc B4.size (.cells #[.int .i64 0, .int .i64 0, .int .i64 0, .int .i64 0] 23))
  have Rc := row_alloc (o' := .cells #[.int .i64 0, .int .i64 0, .int .i64 0, .int .i64 0] 23) (Hc.out)
  have Ra := row_alloc (o' := .cells #[.int .i64 0, .int .i64 0, .int .i64 0, .int .i64 0] 23) (Ha.out)
  have Rb := row_alloc (o' := .cells #[.int .i64 0, .int .i64 0, .int .i64 0, .int .i64 0] 23) (Hb.out)
  have Ro := row_new w4 #[.int .i64 0, .int .i64 0, .int .i64 0, .int .i64 0] 23
  clear c_0 c_1 c_2 c_3 c_f0 c_f1 c_f2 c_f3 a_0 a_1 a_2 a_3 a_f0 a_f1 a_f2 a_f3 b_0 b_1 b_2 b_3 b_f0 b_f1 b_f2 b_f3 z_c z_a z_b
  refine (hold_as HK _).mono ?_
  rintro e w5 ⟨rfl, hb⟩
  have B5 := below_only BB hb
  replace Rc := row_below Rc hb
  replace Ra := row_below Ra hb
  replace Rb := row_below Rb hb
  replace Ro := row_below Ro hb
  clear B4 BB hb Hc Ha Hb
  obtain ⟨c_0, c_1, c_2, c_3, c_f0, c_f1, c_f2, c_f3⟩ := box4 Rc
  have Hc := Lib.hid Rc; clear Rc
  obtain ⟨a_0, a_1, a_2, a_3, a_f0, a_f1, a_f2, a_f3⟩ := box4 Ra
  have Ha := Lib.hid Ra; clear Ra
  obtain ⟨b_0, b_1, b_2, b_3, b_f0, b_f1, b_f2, b_f3⟩ := box4 Rb
  have Hb := Lib.hid Rb; clear Rb
  obtain ⟨o_0, o_1, o_2, o_3, o_f0, o_f1, o_f2, o_f3⟩ := box4 Ro
  have Ho := Lib.hid Ro; clear Ro
  have z_c := lt_of_heap Hc.out
  have z_a := lt_of_heap Ha.out
  have z_b := lt_of_heap Hb.out
  have z_o := lt_of_heap Ho.out
  go_wp2_with fail
  have BB := ((B5.alloc B5.size (.cells #[.int .i64 0, .int .i64 0, .int .i64 0, .int .i64 0] 23)).alloc (B5.alloc B5.size (.cells #[.int .i64 0, .int .i64 0, .int .i64 0, .int .i64 0] 23)).size (.cells #[.int .i64 0, .int .i64 0, .int .i64 0, .int .i64 0] 23))
  have Rc := row_alloc (o' := .cells #[.int .i64 0, .int .i64 0, .int .i64 0, .int .i64 0] 23) (row_alloc (o' := .cells #[.int .i64 0, .int .i64 0, .int .i64 0, .int .i64 0] 23) (Hc.out))
  have Ra := row_alloc (o' := .cells #[.int .i64 0, .int .i64 0, .int .i64 0, .int .i64 0] 23) (row_alloc (o' := .cells #[.int .i64 0, .int .i64 0, .int .i64 0, .int .i64 0] 23) (Ha.out))
  have Rb := row_alloc (o' := .cells #[.int .i64 0, .int .i64 0, .int .i64 0, .int .i64 0] 23) (row_alloc (o' := .cells #[.int .i64 0, .int .i64 0, .int .i64 0, .int .i64 0] 23) (Hb.out))
  have Ro := row_alloc (o' := .cells #[.int .i64 0, .int .i64 0, .int .i64 0, .int .i64 0] 23) (row_alloc (o' := .cells #[.int .i64 0, .int .i64 0, .int .i64 0, .int .i64 0] 23) (Ho.out))
  have Rh := row_alloc (o' := .cells #[.int .i64 0, .int .i64 0, .int .i64 0, .int .i64 0] 23) (row_new w5 #[.int .i64 0, .int .i64 0, .int .i64 0, .int .i64 0] 23)
  have Rnone := (show ((w5.alloc (.cells #[.int .i64 0, .int .i64 0, .int .i64 0, .int .i64 0] 23)).alloc (.cells #[.int .i64 0, .int .i64 0, .int .i64 0, .int .i64 0] 23)).heap[(w5.heap.size + 1)]? = some (.cells #[.int .i64 0, .int .i64 0, .int .i64 0, .int .i64 0] 23 (0, 0)) from heap_at (by simp))
  clear c_0 c_1 c_2 c_3 c_f0 c_f1 c_f2 c_f3 a_0 a_1 a_2 a_3 a_f0 a_f1 a_f2 a_f3 b_0 b_1 b_2 b_3 b_f0 b_f1 b_f2 b_f3 o_0 o_1 o_2 o_3 o_f0 o_f1 o_f2 o_f3 z_c z_a z_b z_o
  refine (right_any _ _ _ _ _).mono ?_
  rintro e w6 ⟨rfl, hb⟩
  rw [HR.out]
  have B6 := below_only BB hb
  replace Rc := row_below Rc hb
  replace Ra := row_below Ra hb
  replace Rb := row_below Rb hb
  replace Ro := row_below Ro hb
  replace Rh := row_below Rh hb
  replace Rnone := row_below Rnone hb
  clear B5 BB hb Hc Ha Hb Ho
  obtain ⟨c_0, c_1, c_2, c_3, c_f0, c_f1, c_f2, c_f3⟩ := box4 Rc
  have Hc := Lib.hid Rc; clear Rc
  obtain ⟨a_0, a_1, a_2, a_3, a_f0, a_f1, a_f2, a_f3⟩ := box4 Ra
  have Ha := Lib.hid Ra; clear Ra
  obtain ⟨b_0, b_1, b_2, b_3, b_f0, b_f1, b_f2, b_f3⟩ := box4 Rb
  have Hb := Lib.hid Rb; clear Rb
  obtain ⟨o_0, o_1, o_2, o_3, o_f0, o_f1, o_f2, o_f3⟩ := box4 Ro
  have Ho := Lib.hid Ro; clear Ro
  obtain ⟨h_0, h_1, h_2, h_3, h_f0, h_f1, h_f2, h_f3⟩ := box4 Rh
  have Hh := Lib.hid Rh; clear Rh
  obtain ⟨none_0, none_1, none_2, none_3, none_f0, none_f1, none_f2, none_f3⟩ := box4 Rnone
  have Hnone := Lib.hid Rnone; clear Rnone
  have z_c := lt_of_heap Hc.out
  have z_a := lt_of_heap Ha.out
  have z_b := lt_of_heap Hb.out
  have z_o := lt_of_heap Ho.out
  have z_h := lt_of_heap Hh.out
  have z_none := lt_of_heap Hnone.out
  go_wp2_with fail
  go_ret
  exact ⟨rfl, B6⟩

set_option maxRecDepth 100000 in
set_option maxHeartbeats 4000000 in
theorem ctlStates_free (n p e m : Int) (w : World) (m0 : 0 ≤ m) (m1 : m ≤ 255) (HE : Hid (enter ⟨0, n, p, e⟩ (m % 8) = (⟨0, 0, 0, 0⟩, 11))) (HL : Hid (leave ⟨0, n, p, e⟩ = (⟨0, 0, 0, 0⟩, 11))) (HO : Hid (openC ⟨0, n, p, e⟩ = (⟨0, 0, 0, 0⟩, 11))) (HK : Hid (hold ⟨0, n, p, e⟩ = (⟨0, 0, 0, 0⟩, 11))) (HR : Hid (rightB ⟨0, n, p, e⟩ = true)) :
    Calls Try.prog 7 #[.agg #[.int .i64 0, .int .i64 n, .int .i64 p, .int .i64 e], .int .u8 m] w fun e w' => e = .returned (.bool true) ∧ Below w.heap.size w w' := by
  have Hc := Lib.hid (show (w.alloc (.cells #[.int .i64 0, .int .i64 n, .int .i64 p, .int .i64 e] 23)).heap[w.heap.size]? = some (.cells #[.int .i64 0, .int .i64 n, .int .i64 p, .int .i64 e] 23 (0, 0)) from row_new _ _ _)
  have B0 : Below w.heap.size w (w.alloc (.cells #[.int .i64 0, .int .i64 n, .int .i64 p, .int .i64 e] 23)) := by go_grown
  go_enter Try.func7, Try.ntmps7
  go_wp2_with fail
  have BB := B0
  have Rc := Hc.out
  refine (shown_any _).mono ?_
  rintro e w1 ⟨rfl, hb⟩
  have B1 := below_only BB hb
  replace Rc := row_below Rc hb
  clear B0 BB hb Hc
  obtain ⟨c_0, c_1, c_2, c_3, c_f0, c_f1, c_f2, c_f3⟩ := box4 Rc
  have Hc := Lib.hid Rc; clear Rc
  have z_c := lt_of_heap Hc.out
  go_wp2_with fail
  have BB := B1
  have Rc := Hc.out
  clear c_0 c_1 c_2 c_3 c_f0 c_f1 c_f2 c_f3 z_c
  refine (enter_as HE _).mono ?_
  rintro e w2 ⟨rfl, hb⟩
  have B2 := below_only BB hb
  replace Rc := row_below Rc hb
  clear B1 BB hb Hc
  obtain ⟨c_0, c_1, c_2, c_3, c_f0, c_f1, c_f2, c_f3⟩ := box4 Rc
  have Hc := Lib.hid Rc; clear Rc
  have z_c := lt_of_heap Hc.out
  go_wp2_with fail
  have BB := (B2.alloc B2.size (.cells #[.int .i64 0, .int .i64 0, .int .i64 0, .int .i64 0] 23))
  have Rc := row_alloc (o' := .cells #[.int .i64 0, .int .i64 0, .int .i64 0, .int .i64 0] 23) (Hc.out)
  have Ra := row_new w2 #[.int .i64 0, .int .i64 0, .int .i64 0, .int .i64 0] 23
  clear c_0 c_1 c_2 c_3 c_f0 c_f1 c_f2 c_f3 z_c
  refine (leave_as HL _).mono ?_
  rintro e w3 ⟨rfl, hb⟩
  have B3 := below_only BB hb
  replace Rc := row_below Rc hb
  replace Ra := row_below Ra hb
  clear B2 BB hb Hc
  obtain ⟨c_0, c_1, c_2, c_3, c_f0, c_f1, c_f2, c_f3⟩ := box4 Rc
  have Hc := Lib.hid Rc; clear Rc
  obtain ⟨a_0, a_1, a_2, a_3, a_f0, a_f1, a_f2, a_f3⟩ := box4 Ra
  have Ha := Lib.hid Ra; clear Ra
  have z_c := lt_of_heap Hc.out
  have z_a := lt_of_heap Ha.out
  go_wp2_with fail
  have BB := (B3.alloc B3.size (.cells #[.int .i64 0, .int .i64 0, .int .i64 0, .int .i64 0] 23))
  have Rc := row_alloc (o' := .cells #[.int .i64 0, .int .i64 0, .int .i64 0, .int .i64 0] 23) (Hc.out)
  have Ra := row_alloc (o' := .cells #[.int .i64 0, .int .i64 0, .int .i64 0, .int .i64 0] 23) (Ha.out)
  have Rb := row_new w3 #[.int .i64 0, .int .i64 0, .int .i64 0, .int .i64 0] 23
  clear c_0 c_1 c_2 c_3 c_f0 c_f1 c_f2 c_f3 a_0 a_1 a_2 a_3 a_f0 a_f1 a_f2 a_f3 z_c z_a
  refine (open_as HO _).mono ?_
  rintro e w4 ⟨rfl, hb⟩
  have B4 := below_only BB hb
  replace Rc := row_below Rc hb
  replace Ra := row_below Ra hb
  replace Rb := row_below Rb hb
  clear B3 BB hb Hc Ha
  obtain ⟨c_0, c_1, c_2, c_3, c_f0, c_f1, c_f2, c_f3⟩ := box4 Rc
  have Hc := Lib.hid Rc; clear Rc
  obtain ⟨a_0, a_1, a_2, a_3, a_f0, a_f1, a_f2, a_f3⟩ := box4 Ra
  have Ha := Lib.hid Ra; clear Ra
  obtain ⟨b_0, b_1, b_2, b_3, b_f0, b_f1, b_f2, b_f3⟩ := box4 Rb
  have Hb := Lib.hid Rb; clear Rb
  have z_c := lt_of_heap Hc.out
  have z_a := lt_of_heap Ha.out
  have z_b := lt_of_heap Hb.out
  go_wp2_with fail
  have BB := (B4.alloc B4.size (.cells #[.int .i64 0, .int .i64 0, .int .i64 0, .int .i64 0] 23))
  have Rc := row_alloc (o' := .cells #[.int .i64 0, .int .i64 0, .int .i64 0, .int .i64 0] 23) (Hc.out)
  have Ra := row_alloc (o' := .cells #[.int .i64 0, .int .i64 0, .int .i64 0, .int .i64 0] 23) (Ha.out)
  have Rb := row_alloc (o' := .cells #[.int .i64 0, .int .i64 0, .int .i64 0, .int .i64 0] 23) (Hb.out)
  have Ro := row_new w4 #[.int .i64 0, .int .i64 0, .int .i64 0, .int .i64 0] 23
  clear c_0 c_1 c_2 c_3 c_f0 c_f1 c_f2 c_f3 a_0 a_1 a_2 a_3 a_f0 a_f1 a_f2 a_f3 b_0 b_1 b_2 b_3 b_f0 b_f1 b_f2 b_f3 z_c z_a z_b
  refine (hold_as HK _).mono ?_
  rintro e w5 ⟨rfl, hb⟩
  have B5 := below_only BB hb
  replace Rc := row_below Rc hb
  replace Ra := row_below Ra hb
  replace Rb := row_below Rb hb
  replace Ro := row_below Ro hb
  clear B4 BB hb Hc Ha Hb
  obtain ⟨c_0, c_1, c_2, c_3, c_f0, c_f1, c_f2, c_f3⟩ := box4 Rc
  have Hc := Lib.hid Rc; clear Rc
  obtain ⟨a_0, a_1, a_2, a_3, a_f0, a_f1, a_f2, a_f3⟩ := box4 Ra
  have Ha := Lib.hid Ra; clear Ra
  obtain ⟨b_0, b_1, b_2, b_3, b_f0, b_f1, b_f2, b_f3⟩ := box4 Rb
  have Hb := Lib.hid Rb; clear Rb
  obtain ⟨o_0, o_1, o_2, o_3, o_f0, o_f1, o_f2, o_f3⟩ := box4 Ro
  have Ho := Lib.hid Ro; clear Ro
  have z_c := lt_of_heap Hc.out
  have z_a := lt_of_heap Ha.out
  have z_b := lt_of_heap Hb.out
  have z_o := lt_of_heap Ho.out
  go_wp2_with fail
  have BB := ((B5.alloc B5.size (.cells #[.int .i64 0, .int .i64 0, .int .i64 0, .int .i64 0] 23)).alloc (B5.alloc B5.size (.cells #[.int .i64 0, .int .i64 0, .int .i64 0, .int .i64 0] 23)).size (.cells #[.int .i64 0, .int .i64 0, .int .i64 0, .int .i64 0] 23))
  have Rc := row_alloc (o' := .cells #[.int .i64 0, .int .i64 0, .int .i64 0, .int .i64 0] 23) (row_alloc (o' := .cells #[.int .i64 0, .int .i64 0, .int .i64 0, .int .i64 0] 23) (Hc.out))
  have Ra := row_alloc (o' := .cells #[.int .i64 0, .int .i64 0, .int .i64 0, .int .i64 0] 23) (row_alloc (o' := .cells #[.int .i64 0, .int .i64 0, .int .i64 0, .int .i64 0] 23) (Ha.out))
  have Rb := row_alloc (o' := .cells #[.int .i64 0, .int .i64 0, .int .i64 0, .int .i64 0] 23) (row_alloc (o' := .cells #[.int .i64 0, .int .i64 0, .int .i64 0, .int .i64 0] 23) (Hb.out))
  have Ro := row_alloc (o' := .cells #[.int .i64 0, .int .i64 0, .int .i64 0, .int .i64 0] 23) (row_alloc (o' := .cells #[.int .i64 0, .int .i64 0, .int .i64 0, .int .i64 0] 23) (Ho.out))
  have Rh := row_alloc (o' := .cells #[.int .i64 0, .int .i64 0, .int .i64 0, .int .i64 0] 23) (row_new w5 #[.int .i64 0, .int .i64 0, .int .i64 0, .int .i64 0] 23)
  have Rnone := (show ((w5.alloc (.cells #[.int .i64 0, .int .i64 0, .int .i64 0, .int .i64 0] 23)).alloc (.cells #[.int .i64 0, .int .i64 0, .int .i64 0, .int .i64 0] 23)).heap[(w5.heap.size + 1)]? = some (.cells #[.int .i64 0, .int .i64 0, .int .i64 0, .int .i64 0] 23 (0, 0)) from heap_at (by simp))
  clear c_0 c_1 c_2 c_3 c_f0 c_f1 c_f2 c_f3 a_0 a_1 a_2 a_3 a_f0 a_f1 a_f2 a_f3 b_0 b_1 b_2 b_3 b_f0 b_f1 b_f2 b_f3 o_0 o_1 o_2 o_3 o_f0 o_f1 o_f2 o_f3 z_c z_a z_b z_o
  refine (right_any _ _ _ _ _).mono ?_
  rintro e w6 ⟨rfl, hb⟩
  rw [HR.out]
  have B6 := below_only BB hb
  replace Rc := row_below Rc hb
  replace Ra := row_below Ra hb
  replace Rb := row_below Rb hb
  replace Ro := row_below Ro hb
  replace Rh := row_below Rh hb
  replace Rnone := row_below Rnone hb
  clear B5 BB hb Hc Ha Hb Ho
  obtain ⟨c_0, c_1, c_2, c_3, c_f0, c_f1, c_f2, c_f3⟩ := box4 Rc
  have Hc := Lib.hid Rc; clear Rc
  obtain ⟨a_0, a_1, a_2, a_3, a_f0, a_f1, a_f2, a_f3⟩ := box4 Ra
  have Ha := Lib.hid Ra; clear Ra
  obtain ⟨b_0, b_1, b_2, b_3, b_f0, b_f1, b_f2, b_f3⟩ := box4 Rb
  have Hb := Lib.hid Rb; clear Rb
  obtain ⟨o_0, o_1, o_2, o_3, o_f0, o_f1, o_f2, o_f3⟩ := box4 Ro
  have Ho := Lib.hid Ro; clear Ro
  obtain ⟨h_0, h_1, h_2, h_3, h_f0, h_f1, h_f2, h_f3⟩ := box4 Rh
  have Hh := Lib.hid Rh; clear Rh
  obtain ⟨none_0, none_1, none_2, none_3, none_f0, none_f1, none_f2, none_f3⟩ := box4 Rnone
  have Hnone := Lib.hid Rnone; clear Rnone
  have z_c := lt_of_heap Hc.out
  have z_a := lt_of_heap Ha.out
  have z_b := lt_of_heap Hb.out
  have z_o := lt_of_heap Ho.out
  have z_h := lt_of_heap Hh.out
  have z_none := lt_of_heap Hnone.out
  go_wp2_with fail
  go_ret
  exact ⟨rfl, B6⟩

set_option maxRecDepth 100000 in
set_option maxHeartbeats 4000000 in
theorem ctlStates_idle (n p e m as_ an ap ae : Int) (w : World) (m0 : 0 ≤ m) (m1 : m ≤ 255) (HE : Hid (enter ⟨1, n, p, e⟩ (m % 8) = (⟨as_, an, ap, ae⟩, 0))) (HL : Hid (leave ⟨1, n, p, e⟩ = (⟨0, 0, 0, 0⟩, 11))) (HO : Hid (openC ⟨1, n, p, e⟩ = (⟨0, 0, 0, 0⟩, 11))) (HK : Hid (hold ⟨1, n, p, e⟩ = (⟨0, 0, 0, 0⟩, 11))) (HR : Hid (rightB ⟨1, n, p, e⟩ = true)) (HRa : Hid (rightB ⟨as_, an, ap, ae⟩ = true)) :
    Calls Try.prog 7 #[.agg #[.int .i64 1, .int .i64 n, .int .i64 p, .int .i64 e], .int .u8 m] w fun e w' => e = .returned (.bool true) ∧ Below w.heap.size w w' := by
  have Hc := Lib.hid (show (w.alloc (.cells #[.int .i64 1, .int .i64 n, .int .i64 p, .int .i64 e] 23)).heap[w.heap.size]? = some (.cells #[.int .i64 1, .int .i64 n, .int .i64 p, .int .i64 e] 23 (0, 0)) from row_new _ _ _)
  have B0 : Below w.heap.size w (w.alloc (.cells #[.int .i64 1, .int .i64 n, .int .i64 p, .int .i64 e] 23)) := by go_grown
  go_enter Try.func7, Try.ntmps7
  go_wp2_with fail
  have BB := B0
  have Rc := Hc.out
  refine (shown_any _).mono ?_
  rintro e w1 ⟨rfl, hb⟩
  have B1 := below_only BB hb
  replace Rc := row_below Rc hb
  clear B0 BB hb Hc
  obtain ⟨c_0, c_1, c_2, c_3, c_f0, c_f1, c_f2, c_f3⟩ := box4 Rc
  have Hc := Lib.hid Rc; clear Rc
  have z_c := lt_of_heap Hc.out
  go_wp2_with fail
  have BB := B1
  have Rc := Hc.out
  clear c_0 c_1 c_2 c_3 c_f0 c_f1 c_f2 c_f3 z_c
  refine (enter_as HE _).mono ?_
  rintro e w2 ⟨rfl, hb⟩
  have B2 := below_only BB hb
  replace Rc := row_below Rc hb
  clear B1 BB hb Hc
  obtain ⟨c_0, c_1, c_2, c_3, c_f0, c_f1, c_f2, c_f3⟩ := box4 Rc
  have Hc := Lib.hid Rc; clear Rc
  have z_c := lt_of_heap Hc.out
  go_wp2_with fail
  have BB := (B2.alloc B2.size (.cells #[.int .i64 as_, .int .i64 an, .int .i64 ap, .int .i64 ae] 23))
  have Rc := row_alloc (o' := .cells #[.int .i64 as_, .int .i64 an, .int .i64 ap, .int .i64 ae] 23) (Hc.out)
  have Ra := row_new w2 #[.int .i64 as_, .int .i64 an, .int .i64 ap, .int .i64 ae] 23
  clear c_0 c_1 c_2 c_3 c_f0 c_f1 c_f2 c_f3 z_c
  refine (leave_as HL _).mono ?_
  rintro e w3 ⟨rfl, hb⟩
  have B3 := below_only BB hb
  replace Rc := row_below Rc hb
  replace Ra := row_below Ra hb
  clear B2 BB hb Hc
  obtain ⟨c_0, c_1, c_2, c_3, c_f0, c_f1, c_f2, c_f3⟩ := box4 Rc
  have Hc := Lib.hid Rc; clear Rc
  obtain ⟨a_0, a_1, a_2, a_3, a_f0, a_f1, a_f2, a_f3⟩ := box4 Ra
  have Ha := Lib.hid Ra; clear Ra
  have z_c := lt_of_heap Hc.out
  have z_a := lt_of_heap Ha.out
  go_wp2_with fail
  have BB := (B3.alloc B3.size (.cells #[.int .i64 0, .int .i64 0, .int .i64 0, .int .i64 0] 23))
  have Rc := row_alloc (o' := .cells #[.int .i64 0, .int .i64 0, .int .i64 0, .int .i64 0] 23) (Hc.out)
  have Ra := row_alloc (o' := .cells #[.int .i64 0, .int .i64 0, .int .i64 0, .int .i64 0] 23) (Ha.out)
  have Rb := row_new w3 #[.int .i64 0, .int .i64 0, .int .i64 0, .int .i64 0] 23
  clear c_0 c_1 c_2 c_3 c_f0 c_f1 c_f2 c_f3 a_0 a_1 a_2 a_3 a_f0 a_f1 a_f2 a_f3 z_c z_a
  refine (open_as HO _).mono ?_
  rintro e w4 ⟨rfl, hb⟩
  have B4 := below_only BB hb
  replace Rc := row_below Rc hb
  replace Ra := row_below Ra hb
  replace Rb := row_below Rb hb
  clear B3 BB hb Hc Ha
  obtain ⟨c_0, c_1, c_2, c_3, c_f0, c_f1, c_f2, c_f3⟩ := box4 Rc
  have Hc := Lib.hid Rc; clear Rc
  obtain ⟨a_0, a_1, a_2, a_3, a_f0, a_f1, a_f2, a_f3⟩ := box4 Ra
  have Ha := Lib.hid Ra; clear Ra
  obtain ⟨b_0, b_1, b_2, b_3, b_f0, b_f1, b_f2, b_f3⟩ := box4 Rb
  have Hb := Lib.hid Rb; clear Rb
  have z_c := lt_of_heap Hc.out
  have z_a := lt_of_heap Ha.out
  have z_b := lt_of_heap Hb.out
  go_wp2_with fail
  have BB := (B4.alloc B4.size (.cells #[.int .i64 0, .int .i64 0, .int .i64 0, .int .i64 0] 23))
  have Rc := row_alloc (o' := .cells #[.int .i64 0, .int .i64 0, .int .i64 0, .int .i64 0] 23) (Hc.out)
  have Ra := row_alloc (o' := .cells #[.int .i64 0, .int .i64 0, .int .i64 0, .int .i64 0] 23) (Ha.out)
  have Rb := row_alloc (o' := .cells #[.int .i64 0, .int .i64 0, .int .i64 0, .int .i64 0] 23) (Hb.out)
  have Ro := row_new w4 #[.int .i64 0, .int .i64 0, .int .i64 0, .int .i64 0] 23
  clear c_0 c_1 c_2 c_3 c_f0 c_f1 c_f2 c_f3 a_0 a_1 a_2 a_3 a_f0 a_f1 a_f2 a_f3 b_0 b_1 b_2 b_3 b_f0 b_f1 b_f2 b_f3 z_c z_a z_b
  refine (hold_as HK _).mono ?_
  rintro e w5 ⟨rfl, hb⟩
  have B5 := below_only BB hb
  replace Rc := row_below Rc hb
  replace Ra := row_below Ra hb
  replace Rb := row_below Rb hb
  replace Ro := row_below Ro hb
  clear B4 BB hb Hc Ha Hb
  obtain ⟨c_0, c_1, c_2, c_3, c_f0, c_f1, c_f2, c_f3⟩ := box4 Rc
  have Hc := Lib.hid Rc; clear Rc
  obtain ⟨a_0, a_1, a_2, a_3, a_f0, a_f1, a_f2, a_f3⟩ := box4 Ra
  have Ha := Lib.hid Ra; clear Ra
  obtain ⟨b_0, b_1, b_2, b_3, b_f0, b_f1, b_f2, b_f3⟩ := box4 Rb
  have Hb := Lib.hid Rb; clear Rb
  obtain ⟨o_0, o_1, o_2, o_3, o_f0, o_f1, o_f2, o_f3⟩ := box4 Ro
  have Ho := Lib.hid Ro; clear Ro
  have z_c := lt_of_heap Hc.out
  have z_a := lt_of_heap Ha.out
  have z_b := lt_of_heap Hb.out
  have z_o := lt_of_heap Ho.out
  go_wp2_with fail
  have BB := ((B5.alloc B5.size (.cells #[.int .i64 0, .int .i64 0, .int .i64 0, .int .i64 0] 23)).alloc (B5.alloc B5.size (.cells #[.int .i64 0, .int .i64 0, .int .i64 0, .int .i64 0] 23)).size (.cells #[.int .i64 0, .int .i64 0, .int .i64 0, .int .i64 0] 23))
  have Rc := row_alloc (o' := .cells #[.int .i64 0, .int .i64 0, .int .i64 0, .int .i64 0] 23) (row_alloc (o' := .cells #[.int .i64 0, .int .i64 0, .int .i64 0, .int .i64 0] 23) (Hc.out))
  have Ra := row_alloc (o' := .cells #[.int .i64 0, .int .i64 0, .int .i64 0, .int .i64 0] 23) (row_alloc (o' := .cells #[.int .i64 0, .int .i64 0, .int .i64 0, .int .i64 0] 23) (Ha.out))
  have Rb := row_alloc (o' := .cells #[.int .i64 0, .int .i64 0, .int .i64 0, .int .i64 0] 23) (row_alloc (o' := .cells #[.int .i64 0, .int .i64 0, .int .i64 0, .int .i64 0] 23) (Hb.out))
  have Ro := row_alloc (o' := .cells #[.int .i64 0, .int .i64 0, .int .i64 0, .int .i64 0] 23) (row_alloc (o' := .cells #[.int .i64 0, .int .i64 0, .int .i64 0, .int .i64 0] 23) (Ho.out))
  have Rh := row_alloc (o' := .cells #[.int .i64 0, .int .i64 0, .int .i64 0, .int .i64 0] 23) (row_new w5 #[.int .i64 0, .int .i64 0, .int .i64 0, .int .i64 0] 23)
  have Rnone := (show ((w5.alloc (.cells #[.int .i64 0, .int .i64 0, .int .i64 0, .int .i64 0] 23)).alloc (.cells #[.int .i64 0, .int .i64 0, .int .i64 0, .int .i64 0] 23)).heap[(w5.heap.size + 1)]? = some (.cells #[.int .i64 0, .int .i64 0, .int .i64 0, .int .i64 0] 23 (0, 0)) from heap_at (by simp))
  clear c_0 c_1 c_2 c_3 c_f0 c_f1 c_f2 c_f3 a_0 a_1 a_2 a_3 a_f0 a_f1 a_f2 a_f3 b_0 b_1 b_2 b_3 b_f0 b_f1 b_f2 b_f3 o_0 o_1 o_2 o_3 o_f0 o_f1 o_f2 o_f3 z_c z_a z_b z_o
  refine (right_any _ _ _ _ _).mono ?_
  rintro e w6 ⟨rfl, hb⟩
  rw [HR.out]
  have B6 := below_only BB hb
  replace Rc := row_below Rc hb
  replace Ra := row_below Ra hb
  replace Rb := row_below Rb hb
  replace Ro := row_below Ro hb
  replace Rh := row_below Rh hb
  replace Rnone := row_below Rnone hb
  clear B5 BB hb Hc Ha Hb Ho
  obtain ⟨c_0, c_1, c_2, c_3, c_f0, c_f1, c_f2, c_f3⟩ := box4 Rc
  have Hc := Lib.hid Rc; clear Rc
  obtain ⟨a_0, a_1, a_2, a_3, a_f0, a_f1, a_f2, a_f3⟩ := box4 Ra
  have Ha := Lib.hid Ra; clear Ra
  obtain ⟨b_0, b_1, b_2, b_3, b_f0, b_f1, b_f2, b_f3⟩ := box4 Rb
  have Hb := Lib.hid Rb; clear Rb
  obtain ⟨o_0, o_1, o_2, o_3, o_f0, o_f1, o_f2, o_f3⟩ := box4 Ro
  have Ho := Lib.hid Ro; clear Ro
  obtain ⟨h_0, h_1, h_2, h_3, h_f0, h_f1, h_f2, h_f3⟩ := box4 Rh
  have Hh := Lib.hid Rh; clear Rh
  obtain ⟨none_0, none_1, none_2, none_3, none_f0, none_f1, none_f2, none_f3⟩ := box4 Rnone
  have Hnone := Lib.hid Rnone; clear Rnone
  have z_c := lt_of_heap Hc.out
  have z_a := lt_of_heap Ha.out
  have z_b := lt_of_heap Hb.out
  have z_o := lt_of_heap Ho.out
  have z_h := lt_of_heap Hh.out
  have z_none := lt_of_heap Hnone.out
  go_wp2_with fail
  have BB := B6
  have Rc := Hc.out
  have Ra := Ha.out
  have Rb := Hb.out
  have Ro := Ho.out
  have Rh := Hh.out
  have Rnone := Hnone.out
  clear c_0 c_1 c_2 c_3 c_f0 c_f1 c_f2 c_f3 a_0 a_1 a_2 a_3 a_f0 a_f1 a_f2 a_f3 b_0 b_1 b_2 b_3 b_f0 b_f1 b_f2 b_f3 o_0 o_1 o_2 o_3 o_f0 o_f1 o_f2 o_f3 h_0 h_1 h_2 h_3 h_f0 h_f1 h_f2 h_f3 none_0 none_1 none_2 none_3 none_f0 none_f1 none_f2 none_f3 z_c z_a z_b z_o z_h z_none
  refine (right_any _ _ _ _ _).mono ?_
  rintro e w7 ⟨rfl, hb⟩
  rw [HRa.out]
  have B7 := below_only BB hb
  replace Rc := row_below Rc hb
  replace Ra := row_below Ra hb
  replace Rb := row_below Rb hb
  replace Ro := row_below Ro hb
  replace Rh := row_below Rh hb
  replace Rnone := row_below Rnone hb
  clear B6 BB hb Hc Ha Hb Ho Hh Hnone
  obtain ⟨c_0, c_1, c_2, c_3, c_f0, c_f1, c_f2, c_f3⟩ := box4 Rc
  have Hc := Lib.hid Rc; clear Rc
  obtain ⟨a_0, a_1, a_2, a_3, a_f0, a_f1, a_f2, a_f3⟩ := box4 Ra
  have Ha := Lib.hid Ra; clear Ra
  obtain ⟨b_0, b_1, b_2, b_3, b_f0, b_f1, b_f2, b_f3⟩ := box4 Rb
  have Hb := Lib.hid Rb; clear Rb
  obtain ⟨o_0, o_1, o_2, o_3, o_f0, o_f1, o_f2, o_f3⟩ := box4 Ro
  have Ho := Lib.hid Ro; clear Ro
  obtain ⟨h_0, h_1, h_2, h_3, h_f0, h_f1, h_f2, h_f3⟩ := box4 Rh
  have Hh := Lib.hid Rh; clear Rh
  obtain ⟨none_0, none_1, none_2, none_3, none_f0, none_f1, none_f2, none_f3⟩ := box4 Rnone
  have Hnone := Lib.hid Rnone; clear Rnone
  have z_c := lt_of_heap Hc.out
  have z_a := lt_of_heap Ha.out
  have z_b := lt_of_heap Hb.out
  have z_o := lt_of_heap Ho.out
  have z_h := lt_of_heap Hh.out
  have z_none := lt_of_heap Hnone.out
  go_wp2_with fail
  go_ret
  exact ⟨rfl, B7⟩

set_option maxRecDepth 100000 in
set_option maxHeartbeats 4000000 in
theorem ctlStates_live (n p e m as_ an ap ae bs bn bp be : Int) (w : World) (m0 : 0 ≤ m) (m1 : m ≤ 255) (HE : Hid (enter ⟨2, n, p, e⟩ (m % 8) = (⟨as_, an, ap, ae⟩, 0))) (HL : Hid (leave ⟨2, n, p, e⟩ = (⟨bs, bn, bp, be⟩, 0))) (HO : Hid (openC ⟨2, n, p, e⟩ = (⟨0, 0, 0, 0⟩, 11))) (HK : Hid (hold ⟨2, n, p, e⟩ = (⟨0, 0, 0, 0⟩, 11))) (HR : Hid (rightB ⟨2, n, p, e⟩ = true)) (HRa : Hid (rightB ⟨as_, an, ap, ae⟩ = true)) (HRb : Hid (rightB ⟨bs, bn, bp, be⟩ = true)) :
    Calls Try.prog 7 #[.agg #[.int .i64 2, .int .i64 n, .int .i64 p, .int .i64 e], .int .u8 m] w fun e w' => e = .returned (.bool true) ∧ Below w.heap.size w w' := by
  have Hc := Lib.hid (show (w.alloc (.cells #[.int .i64 2, .int .i64 n, .int .i64 p, .int .i64 e] 23)).heap[w.heap.size]? = some (.cells #[.int .i64 2, .int .i64 n, .int .i64 p, .int .i64 e] 23 (0, 0)) from row_new _ _ _)
  have B0 : Below w.heap.size w (w.alloc (.cells #[.int .i64 2, .int .i64 n, .int .i64 p, .int .i64 e] 23)) := by go_grown
  go_enter Try.func7, Try.ntmps7
  go_wp2_with fail
  have BB := B0
  have Rc := Hc.out
  refine (shown_any _).mono ?_
  rintro e w1 ⟨rfl, hb⟩
  have B1 := below_only BB hb
  replace Rc := row_below Rc hb
  clear B0 BB hb Hc
  obtain ⟨c_0, c_1, c_2, c_3, c_f0, c_f1, c_f2, c_f3⟩ := box4 Rc
  have Hc := Lib.hid Rc; clear Rc
  have z_c := lt_of_heap Hc.out
  go_wp2_with fail
  have BB := B1
  have Rc := Hc.out
  clear c_0 c_1 c_2 c_3 c_f0 c_f1 c_f2 c_f3 z_c
  refine (enter_as HE _).mono ?_
  rintro e w2 ⟨rfl, hb⟩
  have B2 := below_only BB hb
  replace Rc := row_below Rc hb
  clear B1 BB hb Hc
  obtain ⟨c_0, c_1, c_2, c_3, c_f0, c_f1, c_f2, c_f3⟩ := box4 Rc
  have Hc := Lib.hid Rc; clear Rc
  have z_c := lt_of_heap Hc.out
  go_wp2_with fail
  have BB := (B2.alloc B2.size (.cells #[.int .i64 as_, .int .i64 an, .int .i64 ap, .int .i64 ae] 23))
  have Rc := row_alloc (o' := .cells #[.int .i64 as_, .int .i64 an, .int .i64 ap, .int .i64 ae] 23) (Hc.out)
  have Ra := row_new w2 #[.int .i64 as_, .int .i64 an, .int .i64 ap, .int .i64 ae] 23
  clear c_0 c_1 c_2 c_3 c_f0 c_f1 c_f2 c_f3 z_c
  refine (leave_as HL _).mono ?_
  rintro e w3 ⟨rfl, hb⟩
  have B3 := below_only BB hb
  replace Rc := row_below Rc hb
  replace Ra := row_below Ra hb
  clear B2 BB hb Hc
  obtain ⟨c_0, c_1, c_2, c_3, c_f0, c_f1, c_f2, c_f3⟩ := box4 Rc
  have Hc := Lib.hid Rc; clear Rc
  obtain ⟨a_0, a_1, a_2, a_3, a_f0, a_f1, a_f2, a_f3⟩ := box4 Ra
  have Ha := Lib.hid Ra; clear Ra
  have z_c := lt_of_heap Hc.out
  have z_a := lt_of_heap Ha.out
  go_wp2_with fail
  have BB := (B3.alloc B3.size (.cells #[.int .i64 bs, .int .i64 bn, .int .i64 bp, .int .i64 be] 23))
  have Rc := row_alloc (o' := .cells #[.int .i64 bs, .int .i64 bn, .int .i64 bp, .int .i64 be] 23) (Hc.out)
  have Ra := row_alloc (o' := .cells #[.int .i64 bs, .int .i64 bn, .int .i64 bp, .int .i64 be] 23) (Ha.out)
  have Rb := row_new w3 #[.int .i64 bs, .int .i64 bn, .int .i64 bp, .int .i64 be] 23
  clear c_0 c_1 c_2 c_3 c_f0 c_f1 c_f2 c_f3 a_0 a_1 a_2 a_3 a_f0 a_f1 a_f2 a_f3 z_c z_a
  refine (open_as HO _).mono ?_
  rintro e w4 ⟨rfl, hb⟩
  have B4 := below_only BB hb
  replace Rc := row_below Rc hb
  replace Ra := row_below Ra hb
  replace Rb := row_below Rb hb
  clear B3 BB hb Hc Ha
  obtain ⟨c_0, c_1, c_2, c_3, c_f0, c_f1, c_f2, c_f3⟩ := box4 Rc
  have Hc := Lib.hid Rc; clear Rc
  obtain ⟨a_0, a_1, a_2, a_3, a_f0, a_f1, a_f2, a_f3⟩ := box4 Ra
  have Ha := Lib.hid Ra; clear Ra
  obtain ⟨b_0, b_1, b_2, b_3, b_f0, b_f1, b_f2, b_f3⟩ := box4 Rb
  have Hb := Lib.hid Rb; clear Rb
  have z_c := lt_of_heap Hc.out
  have z_a := lt_of_heap Ha.out
  have z_b := lt_of_heap Hb.out
  go_wp2_with fail
  have BB := (B4.alloc B4.size (.cells #[.int .i64 0, .int .i64 0, .int .i64 0, .int .i64 0] 23))
  have Rc := row_alloc (o' := .cells #[.int .i64 0, .int .i64 0, .int .i64 0, .int .i64 0] 23) (Hc.out)
  have Ra := row_alloc (o' := .cells #[.int .i64 0, .int .i64 0, .int .i64 0, .int .i64 0] 23) (Ha.out)
  have Rb := row_alloc (o' := .cells #[.int .i64 0, .int .i64 0, .int .i64 0, .int .i64 0] 23) (Hb.out)
  have Ro := row_new w4 #[.int .i64 0, .int .i64 0, .int .i64 0, .int .i64 0] 23
  clear c_0 c_1 c_2 c_3 c_f0 c_f1 c_f2 c_f3 a_0 a_1 a_2 a_3 a_f0 a_f1 a_f2 a_f3 b_0 b_1 b_2 b_3 b_f0 b_f1 b_f2 b_f3 z_c z_a z_b
  refine (hold_as HK _).mono ?_
  rintro e w5 ⟨rfl, hb⟩
  have B5 := below_only BB hb
  replace Rc := row_below Rc hb
  replace Ra := row_below Ra hb
  replace Rb := row_below Rb hb
  replace Ro := row_below Ro hb
  clear B4 BB hb Hc Ha Hb
  obtain ⟨c_0, c_1, c_2, c_3, c_f0, c_f1, c_f2, c_f3⟩ := box4 Rc
  have Hc := Lib.hid Rc; clear Rc
  obtain ⟨a_0, a_1, a_2, a_3, a_f0, a_f1, a_f2, a_f3⟩ := box4 Ra
  have Ha := Lib.hid Ra; clear Ra
  obtain ⟨b_0, b_1, b_2, b_3, b_f0, b_f1, b_f2, b_f3⟩ := box4 Rb
  have Hb := Lib.hid Rb; clear Rb
  obtain ⟨o_0, o_1, o_2, o_3, o_f0, o_f1, o_f2, o_f3⟩ := box4 Ro
  have Ho := Lib.hid Ro; clear Ro
  have z_c := lt_of_heap Hc.out
  have z_a := lt_of_heap Ha.out
  have z_b := lt_of_heap Hb.out
  have z_o := lt_of_heap Ho.out
  go_wp2_with fail
  have BB := ((B5.alloc B5.size (.cells #[.int .i64 0, .int .i64 0, .int .i64 0, .int .i64 0] 23)).alloc (B5.alloc B5.size (.cells #[.int .i64 0, .int .i64 0, .int .i64 0, .int .i64 0] 23)).size (.cells #[.int .i64 0, .int .i64 0, .int .i64 0, .int .i64 0] 23))
  have Rc := row_alloc (o' := .cells #[.int .i64 0, .int .i64 0, .int .i64 0, .int .i64 0] 23) (row_alloc (o' := .cells #[.int .i64 0, .int .i64 0, .int .i64 0, .int .i64 0] 23) (Hc.out))
  have Ra := row_alloc (o' := .cells #[.int .i64 0, .int .i64 0, .int .i64 0, .int .i64 0] 23) (row_alloc (o' := .cells #[.int .i64 0, .int .i64 0, .int .i64 0, .int .i64 0] 23) (Ha.out))
  have Rb := row_alloc (o' := .cells #[.int .i64 0, .int .i64 0, .int .i64 0, .int .i64 0] 23) (row_alloc (o' := .cells #[.int .i64 0, .int .i64 0, .int .i64 0, .int .i64 0] 23) (Hb.out))
  have Ro := row_alloc (o' := .cells #[.int .i64 0, .int .i64 0, .int .i64 0, .int .i64 0] 23) (row_alloc (o' := .cells #[.int .i64 0, .int .i64 0, .int .i64 0, .int .i64 0] 23) (Ho.out))
  have Rh := row_alloc (o' := .cells #[.int .i64 0, .int .i64 0, .int .i64 0, .int .i64 0] 23) (row_new w5 #[.int .i64 0, .int .i64 0, .int .i64 0, .int .i64 0] 23)
  have Rnone := (show ((w5.alloc (.cells #[.int .i64 0, .int .i64 0, .int .i64 0, .int .i64 0] 23)).alloc (.cells #[.int .i64 0, .int .i64 0, .int .i64 0, .int .i64 0] 23)).heap[(w5.heap.size + 1)]? = some (.cells #[.int .i64 0, .int .i64 0, .int .i64 0, .int .i64 0] 23 (0, 0)) from heap_at (by simp))
  clear c_0 c_1 c_2 c_3 c_f0 c_f1 c_f2 c_f3 a_0 a_1 a_2 a_3 a_f0 a_f1 a_f2 a_f3 b_0 b_1 b_2 b_3 b_f0 b_f1 b_f2 b_f3 o_0 o_1 o_2 o_3 o_f0 o_f1 o_f2 o_f3 z_c z_a z_b z_o
  refine (right_any _ _ _ _ _).mono ?_
  rintro e w6 ⟨rfl, hb⟩
  rw [HR.out]
  have B6 := below_only BB hb
  replace Rc := row_below Rc hb
  replace Ra := row_below Ra hb
  replace Rb := row_below Rb hb
  replace Ro := row_below Ro hb
  replace Rh := row_below Rh hb
  replace Rnone := row_below Rnone hb
  clear B5 BB hb Hc Ha Hb Ho
  obtain ⟨c_0, c_1, c_2, c_3, c_f0, c_f1, c_f2, c_f3⟩ := box4 Rc
  have Hc := Lib.hid Rc; clear Rc
  obtain ⟨a_0, a_1, a_2, a_3, a_f0, a_f1, a_f2, a_f3⟩ := box4 Ra
  have Ha := Lib.hid Ra; clear Ra
  obtain ⟨b_0, b_1, b_2, b_3, b_f0, b_f1, b_f2, b_f3⟩ := box4 Rb
  have Hb := Lib.hid Rb; clear Rb
  obtain ⟨o_0, o_1, o_2, o_3, o_f0, o_f1, o_f2, o_f3⟩ := box4 Ro
  have Ho := Lib.hid Ro; clear Ro
  obtain ⟨h_0, h_1, h_2, h_3, h_f0, h_f1, h_f2, h_f3⟩ := box4 Rh
  have Hh := Lib.hid Rh; clear Rh
  obtain ⟨none_0, none_1, none_2, none_3, none_f0, none_f1, none_f2, none_f3⟩ := box4 Rnone
  have Hnone := Lib.hid Rnone; clear Rnone
  have z_c := lt_of_heap Hc.out
  have z_a := lt_of_heap Ha.out
  have z_b := lt_of_heap Hb.out
  have z_o := lt_of_heap Ho.out
  have z_h := lt_of_heap Hh.out
  have z_none := lt_of_heap Hnone.out
  go_wp2_with fail
  have BB := B6
  have Rc := Hc.out
  have Ra := Ha.out
  have Rb := Hb.out
  have Ro := Ho.out
  have Rh := Hh.out
  have Rnone := Hnone.out
  clear c_0 c_1 c_2 c_3 c_f0 c_f1 c_f2 c_f3 a_0 a_1 a_2 a_3 a_f0 a_f1 a_f2 a_f3 b_0 b_1 b_2 b_3 b_f0 b_f1 b_f2 b_f3 o_0 o_1 o_2 o_3 o_f0 o_f1 o_f2 o_f3 h_0 h_1 h_2 h_3 h_f0 h_f1 h_f2 h_f3 none_0 none_1 none_2 none_3 none_f0 none_f1 none_f2 none_f3 z_c z_a z_b z_o z_h z_none
  refine (right_any _ _ _ _ _).mono ?_
  rintro e w7 ⟨rfl, hb⟩
  rw [HRa.out]
  have B7 := below_only BB hb
  replace Rc := row_below Rc hb
  replace Ra := row_below Ra hb
  replace Rb := row_below Rb hb
  replace Ro := row_below Ro hb
  replace Rh := row_below Rh hb
  replace Rnone := row_below Rnone hb
  clear B6 BB hb Hc Ha Hb Ho Hh Hnone
  obtain ⟨c_0, c_1, c_2, c_3, c_f0, c_f1, c_f2, c_f3⟩ := box4 Rc
  have Hc := Lib.hid Rc; clear Rc
  obtain ⟨a_0, a_1, a_2, a_3, a_f0, a_f1, a_f2, a_f3⟩ := box4 Ra
  have Ha := Lib.hid Ra; clear Ra
  obtain ⟨b_0, b_1, b_2, b_3, b_f0, b_f1, b_f2, b_f3⟩ := box4 Rb
  have Hb := Lib.hid Rb; clear Rb
  obtain ⟨o_0, o_1, o_2, o_3, o_f0, o_f1, o_f2, o_f3⟩ := box4 Ro
  have Ho := Lib.hid Ro; clear Ro
  obtain ⟨h_0, h_1, h_2, h_3, h_f0, h_f1, h_f2, h_f3⟩ := box4 Rh
  have Hh := Lib.hid Rh; clear Rh
  obtain ⟨none_0, none_1, none_2, none_3, none_f0, none_f1, none_f2, none_f3⟩ := box4 Rnone
  have Hnone := Lib.hid Rnone; clear Rnone
  have z_c := lt_of_heap Hc.out
  have z_a := lt_of_heap Ha.out
  have z_b := lt_of_heap Hb.out
  have z_o := lt_of_heap Ho.out
  have z_h := lt_of_heap Hh.out
  have z_none := lt_of_heap Hnone.out
  go_wp2_with fail
  have BB := B7
  have Rc := Hc.out
  have Ra := Ha.out
  have Rb := Hb.out
  have Ro := Ho.out
  have Rh := Hh.out
  have Rnone := Hnone.out
  clear c_0 c_1 c_2 c_3 c_f0 c_f1 c_f2 c_f3 a_0 a_1 a_2 a_3 a_f0 a_f1 a_f2 a_f3 b_0 b_1 b_2 b_3 b_f0 b_f1 b_f2 b_f3 o_0 o_1 o_2 o_3 o_f0 o_f1 o_f2 o_f3 h_0 h_1 h_2 h_3 h_f0 h_f1 h_f2 h_f3 none_0 none_1 none_2 none_3 none_f0 none_f1 none_f2 none_f3 z_c z_a z_b z_o z_h z_none
  refine (right_any _ _ _ _ _).mono ?_
  rintro e w8 ⟨rfl, hb⟩
  rw [HRb.out]
  have B8 := below_only BB hb
  replace Rc := row_below Rc hb
  replace Ra := row_below Ra hb
  replace Rb := row_below Rb hb
  replace Ro := row_below Ro hb
  replace Rh := row_below Rh hb
  replace Rnone := row_below Rnone hb
  clear B7 BB hb Hc Ha Hb Ho Hh Hnone
  obtain ⟨c_0, c_1, c_2, c_3, c_f0, c_f1, c_f2, c_f3⟩ := box4 Rc
  have Hc := Lib.hid Rc; clear Rc
  obtain ⟨a_0, a_1, a_2, a_3, a_f0, a_f1, a_f2, a_f3⟩ := box4 Ra
  have Ha := Lib.hid Ra; clear Ra
  obtain ⟨b_0, b_1, b_2, b_3, b_f0, b_f1, b_f2, b_f3⟩ := box4 Rb
  have Hb := Lib.hid Rb; clear Rb
  obtain ⟨o_0, o_1, o_2, o_3, o_f0, o_f1, o_f2, o_f3⟩ := box4 Ro
  have Ho := Lib.hid Ro; clear Ro
  obtain ⟨h_0, h_1, h_2, h_3, h_f0, h_f1, h_f2, h_f3⟩ := box4 Rh
  have Hh := Lib.hid Rh; clear Rh
  obtain ⟨none_0, none_1, none_2, none_3, none_f0, none_f1, none_f2, none_f3⟩ := box4 Rnone
  have Hnone := Lib.hid Rnone; clear Rnone
  have z_c := lt_of_heap Hc.out
  have z_a := lt_of_heap Ha.out
  have z_b := lt_of_heap Hb.out
  have z_o := lt_of_heap Ho.out
  have z_h := lt_of_heap Hh.out
  have z_none := lt_of_heap Hnone.out
  go_wp2_with fail
  go_ret
  exact ⟨rfl, B8⟩

set_option maxRecDepth 100000 in
set_option maxHeartbeats 4000000 in
theorem ctlStates_full (n p e m bs bn bp be c : Int) (w : World) (m0 : 0 ≤ m) (m1 : m ≤ 255) (HE : Hid (enter ⟨2, n, p, e⟩ (m % 8) = (⟨0, 0, 0, 0⟩, c))) (HL : Hid (leave ⟨2, n, p, e⟩ = (⟨bs, bn, bp, be⟩, 0))) (HO : Hid (openC ⟨2, n, p, e⟩ = (⟨0, 0, 0, 0⟩, 11))) (HK : Hid (hold ⟨2, n, p, e⟩ = (⟨0, 0, 0, 0⟩, 11))) (HR : Hid (rightB ⟨2, n, p, e⟩ = true)) (HRb : Hid (rightB ⟨bs, bn, bp, be⟩ = true)) (c0 : (c == 0) = false) (c1 : (c != 1) = true) :
    Calls Try.prog 7 #[.agg #[.int .i64 2, .int .i64 n, .int .i64 p, .int .i64 e], .int .u8 m] w fun e w' => e = .returned (.bool true) ∧ Below w.heap.size w w' := by
  have Hc := Lib.hid (show (w.alloc (.cells #[.int .i64 2, .int .i64 n, .int .i64 p, .int .i64 e] 23)).heap[w.heap.size]? = some (.cells #[.int .i64 2, .int .i64 n, .int .i64 p, .int .i64 e] 23 (0, 0)) from row_new _ _ _)
  have B0 : Below w.heap.size w (w.alloc (.cells #[.int .i64 2, .int .i64 n, .int .i64 p, .int .i64 e] 23)) := by go_grown
  go_enter Try.func7, Try.ntmps7
  go_wp2_with fail
  have BB := B0
  have Rc := Hc.out
  refine (shown_any _).mono ?_
  rintro e w1 ⟨rfl, hb⟩
  have B1 := below_only BB hb
  replace Rc := row_below Rc hb
  clear B0 BB hb Hc
  obtain ⟨c_0, c_1, c_2, c_3, c_f0, c_f1, c_f2, c_f3⟩ := box4 Rc
  have Hc := Lib.hid Rc; clear Rc
  have z_c := lt_of_heap Hc.out
  go_wp2_with fail
  have BB := B1
  have Rc := Hc.out
  clear c_0 c_1 c_2 c_3 c_f0 c_f1 c_f2 c_f3 z_c
  refine (enter_as HE _).mono ?_
  rintro e w2 ⟨rfl, hb⟩
  have B2 := below_only BB hb
  replace Rc := row_below Rc hb
  clear B1 BB hb Hc
  obtain ⟨c_0, c_1, c_2, c_3, c_f0, c_f1, c_f2, c_f3⟩ := box4 Rc
  have Hc := Lib.hid Rc; clear Rc
  have z_c := lt_of_heap Hc.out
  go_wp2_with fail
  have BB := (B2.alloc B2.size (.cells #[.int .i64 0, .int .i64 0, .int .i64 0, .int .i64 0] 23))
  have Rc := row_alloc (o' := .cells #[.int .i64 0, .int .i64 0, .int .i64 0, .int .i64 0] 23) (Hc.out)
  have Ra := row_new w2 #[.int .i64 0, .int .i64 0, .int .i64 0, .int .i64 0] 23
  clear c_0 c_1 c_2 c_3 c_f0 c_f1 c_f2 c_f3 z_c
  refine (leave_as HL _).mono ?_
  rintro e w3 ⟨rfl, hb⟩
  have B3 := below_only BB hb
  replace Rc := row_below Rc hb
  replace Ra := row_below Ra hb
  clear B2 BB hb Hc
  obtain ⟨c_0, c_1, c_2, c_3, c_f0, c_f1, c_f2, c_f3⟩ := box4 Rc
  have Hc := Lib.hid Rc; clear Rc
  obtain ⟨a_0, a_1, a_2, a_3, a_f0, a_f1, a_f2, a_f3⟩ := box4 Ra
  have Ha := Lib.hid Ra; clear Ra
  have z_c := lt_of_heap Hc.out
  have z_a := lt_of_heap Ha.out
  go_wp2_with fail
  have BB := (B3.alloc B3.size (.cells #[.int .i64 bs, .int .i64 bn, .int .i64 bp, .int .i64 be] 23))
  have Rc := row_alloc (o' := .cells #[.int .i64 bs, .int .i64 bn, .int .i64 bp, .int .i64 be] 23) (Hc.out)
  have Ra := row_alloc (o' := .cells #[.int .i64 bs, .int .i64 bn, .int .i64 bp, .int .i64 be] 23) (Ha.out)
  have Rb := row_new w3 #[.int .i64 bs, .int .i64 bn, .int .i64 bp, .int .i64 be] 23
  clear c_0 c_1 c_2 c_3 c_f0 c_f1 c_f2 c_f3 a_0 a_1 a_2 a_3 a_f0 a_f1 a_f2 a_f3 z_c z_a
  refine (open_as HO _).mono ?_
  rintro e w4 ⟨rfl, hb⟩
  have B4 := below_only BB hb
  replace Rc := row_below Rc hb
  replace Ra := row_below Ra hb
  replace Rb := row_below Rb hb
  clear B3 BB hb Hc Ha
  obtain ⟨c_0, c_1, c_2, c_3, c_f0, c_f1, c_f2, c_f3⟩ := box4 Rc
  have Hc := Lib.hid Rc; clear Rc
  obtain ⟨a_0, a_1, a_2, a_3, a_f0, a_f1, a_f2, a_f3⟩ := box4 Ra
  have Ha := Lib.hid Ra; clear Ra
  obtain ⟨b_0, b_1, b_2, b_3, b_f0, b_f1, b_f2, b_f3⟩ := box4 Rb
  have Hb := Lib.hid Rb; clear Rb
  have z_c := lt_of_heap Hc.out
  have z_a := lt_of_heap Ha.out
  have z_b := lt_of_heap Hb.out
  go_wp2_with fail
  have BB := (B4.alloc B4.size (.cells #[.int .i64 0, .int .i64 0, .int .i64 0, .int .i64 0] 23))
  have Rc := row_alloc (o' := .cells #[.int .i64 0, .int .i64 0, .int .i64 0, .int .i64 0] 23) (Hc.out)
  have Ra := row_alloc (o' := .cells #[.int .i64 0, .int .i64 0, .int .i64 0, .int .i64 0] 23) (Ha.out)
  have Rb := row_alloc (o' := .cells #[.int .i64 0, .int .i64 0, .int .i64 0, .int .i64 0] 23) (Hb.out)
  have Ro := row_new w4 #[.int .i64 0, .int .i64 0, .int .i64 0, .int .i64 0] 23
  clear c_0 c_1 c_2 c_3 c_f0 c_f1 c_f2 c_f3 a_0 a_1 a_2 a_3 a_f0 a_f1 a_f2 a_f3 b_0 b_1 b_2 b_3 b_f0 b_f1 b_f2 b_f3 z_c z_a z_b
  refine (hold_as HK _).mono ?_
  rintro e w5 ⟨rfl, hb⟩
  have B5 := below_only BB hb
  replace Rc := row_below Rc hb
  replace Ra := row_below Ra hb
  replace Rb := row_below Rb hb
  replace Ro := row_below Ro hb
  clear B4 BB hb Hc Ha Hb
  obtain ⟨c_0, c_1, c_2, c_3, c_f0, c_f1, c_f2, c_f3⟩ := box4 Rc
  have Hc := Lib.hid Rc; clear Rc
  obtain ⟨a_0, a_1, a_2, a_3, a_f0, a_f1, a_f2, a_f3⟩ := box4 Ra
  have Ha := Lib.hid Ra; clear Ra
  obtain ⟨b_0, b_1, b_2, b_3, b_f0, b_f1, b_f2, b_f3⟩ := box4 Rb
  have Hb := Lib.hid Rb; clear Rb
  obtain ⟨o_0, o_1, o_2, o_3, o_f0, o_f1, o_f2, o_f3⟩ := box4 Ro
  have Ho := Lib.hid Ro; clear Ro
  have z_c := lt_of_heap Hc.out
  have z_a := lt_of_heap Ha.out
  have z_b := lt_of_heap Hb.out
  have z_o := lt_of_heap Ho.out
  go_wp2_with fail
  have BB := ((B5.alloc B5.size (.cells #[.int .i64 0, .int .i64 0, .int .i64 0, .int .i64 0] 23)).alloc (B5.alloc B5.size (.cells #[.int .i64 0, .int .i64 0, .int .i64 0, .int .i64 0] 23)).size (.cells #[.int .i64 0, .int .i64 0, .int .i64 0, .int .i64 0] 23))
  have Rc := row_alloc (o' := .cells #[.int .i64 0, .int .i64 0, .int .i64 0, .int .i64 0] 23) (row_alloc (o' := .cells #[.int .i64 0, .int .i64 0, .int .i64 0, .int .i64 0] 23) (Hc.out))
  have Ra := row_alloc (o' := .cells #[.int .i64 0, .int .i64 0, .int .i64 0, .int .i64 0] 23) (row_alloc (o' := .cells #[.int .i64 0, .int .i64 0, .int .i64 0, .int .i64 0] 23) (Ha.out))
  have Rb := row_alloc (o' := .cells #[.int .i64 0, .int .i64 0, .int .i64 0, .int .i64 0] 23) (row_alloc (o' := .cells #[.int .i64 0, .int .i64 0, .int .i64 0, .int .i64 0] 23) (Hb.out))
  have Ro := row_alloc (o' := .cells #[.int .i64 0, .int .i64 0, .int .i64 0, .int .i64 0] 23) (row_alloc (o' := .cells #[.int .i64 0, .int .i64 0, .int .i64 0, .int .i64 0] 23) (Ho.out))
  have Rh := row_alloc (o' := .cells #[.int .i64 0, .int .i64 0, .int .i64 0, .int .i64 0] 23) (row_new w5 #[.int .i64 0, .int .i64 0, .int .i64 0, .int .i64 0] 23)
  have Rnone := (show ((w5.alloc (.cells #[.int .i64 0, .int .i64 0, .int .i64 0, .int .i64 0] 23)).alloc (.cells #[.int .i64 0, .int .i64 0, .int .i64 0, .int .i64 0] 23)).heap[(w5.heap.size + 1)]? = some (.cells #[.int .i64 0, .int .i64 0, .int .i64 0, .int .i64 0] 23 (0, 0)) from heap_at (by simp))
  clear c_0 c_1 c_2 c_3 c_f0 c_f1 c_f2 c_f3 a_0 a_1 a_2 a_3 a_f0 a_f1 a_f2 a_f3 b_0 b_1 b_2 b_3 b_f0 b_f1 b_f2 b_f3 o_0 o_1 o_2 o_3 o_f0 o_f1 o_f2 o_f3 z_c z_a z_b z_o
  refine (right_any _ _ _ _ _).mono ?_
  rintro e w6 ⟨rfl, hb⟩
  rw [HR.out]
  have B6 := below_only BB hb
  replace Rc := row_below Rc hb
  replace Ra := row_below Ra hb
  replace Rb := row_below Rb hb
  replace Ro := row_below Ro hb
  replace Rh := row_below Rh hb
  replace Rnone := row_below Rnone hb
  clear B5 BB hb Hc Ha Hb Ho
  obtain ⟨c_0, c_1, c_2, c_3, c_f0, c_f1, c_f2, c_f3⟩ := box4 Rc
  have Hc := Lib.hid Rc; clear Rc
  obtain ⟨a_0, a_1, a_2, a_3, a_f0, a_f1, a_f2, a_f3⟩ := box4 Ra
  have Ha := Lib.hid Ra; clear Ra
  obtain ⟨b_0, b_1, b_2, b_3, b_f0, b_f1, b_f2, b_f3⟩ := box4 Rb
  have Hb := Lib.hid Rb; clear Rb
  obtain ⟨o_0, o_1, o_2, o_3, o_f0, o_f1, o_f2, o_f3⟩ := box4 Ro
  have Ho := Lib.hid Ro; clear Ro
  obtain ⟨h_0, h_1, h_2, h_3, h_f0, h_f1, h_f2, h_f3⟩ := box4 Rh
  have Hh := Lib.hid Rh; clear Rh
  obtain ⟨none_0, none_1, none_2, none_3, none_f0, none_f1, none_f2, none_f3⟩ := box4 Rnone
  have Hnone := Lib.hid Rnone; clear Rnone
  have z_c := lt_of_heap Hc.out
  have z_a := lt_of_heap Ha.out
  have z_b := lt_of_heap Hb.out
  have z_o := lt_of_heap Ho.out
  have z_h := lt_of_heap Hh.out
  have z_none := lt_of_heap Hnone.out
  go_wp2_with fail
  have BB := B6
  have Rc := Hc.out
  have Ra := Ha.out
  have Rb := Hb.out
  have Ro := Ho.out
  have Rh := Hh.out
  have Rnone := Hnone.out
  clear c_0 c_1 c_2 c_3 c_f0 c_f1 c_f2 c_f3 a_0 a_1 a_2 a_3 a_f0 a_f1 a_f2 a_f3 b_0 b_1 b_2 b_3 b_f0 b_f1 b_f2 b_f3 o_0 o_1 o_2 o_3 o_f0 o_f1 o_f2 o_f3 h_0 h_1 h_2 h_3 h_f0 h_f1 h_f2 h_f3 none_0 none_1 none_2 none_3 none_f0 none_f1 none_f2 none_f3 z_c z_a z_b z_o z_h z_none
  refine (right_any _ _ _ _ _).mono ?_
  rintro e w7 ⟨rfl, hb⟩
  rw [HRb.out]
  have B7 := below_only BB hb
  replace Rc := row_below Rc hb
  replace Ra := row_below Ra hb
  replace Rb := row_below Rb hb
  replace Ro := row_below Ro hb
  replace Rh := row_below Rh hb
  replace Rnone := row_below Rnone hb
  clear B6 BB hb Hc Ha Hb Ho Hh Hnone
  obtain ⟨c_0, c_1, c_2, c_3, c_f0, c_f1, c_f2, c_f3⟩ := box4 Rc
  have Hc := Lib.hid Rc; clear Rc
  obtain ⟨a_0, a_1, a_2, a_3, a_f0, a_f1, a_f2, a_f3⟩ := box4 Ra
  have Ha := Lib.hid Ra; clear Ra
  obtain ⟨b_0, b_1, b_2, b_3, b_f0, b_f1, b_f2, b_f3⟩ := box4 Rb
  have Hb := Lib.hid Rb; clear Rb
  obtain ⟨o_0, o_1, o_2, o_3, o_f0, o_f1, o_f2, o_f3⟩ := box4 Ro
  have Ho := Lib.hid Ro; clear Ro
  obtain ⟨h_0, h_1, h_2, h_3, h_f0, h_f1, h_f2, h_f3⟩ := box4 Rh
  have Hh := Lib.hid Rh; clear Rh
  obtain ⟨none_0, none_1, none_2, none_3, none_f0, none_f1, none_f2, none_f3⟩ := box4 Rnone
  have Hnone := Lib.hid Rnone; clear Rnone
  have z_c := lt_of_heap Hc.out
  have z_a := lt_of_heap Ha.out
  have z_b := lt_of_heap Hb.out
  have z_o := lt_of_heap Ho.out
  have z_h := lt_of_heap Hh.out
  have z_none := lt_of_heap Hnone.out
  go_wp2_with fail
  go_ret
  exact ⟨rfl, B7⟩

set_option maxRecDepth 100000 in
set_option maxHeartbeats 4000000 in
theorem ctlStates_drain (n p e m os on_ op oe ks kn kp ke : Int) (w : World) (m0 : 0 ≤ m) (m1 : m ≤ 255) (HE : Hid (enter ⟨3, n, p, e⟩ (m % 8) = (⟨0, 0, 0, 0⟩, 10))) (HL : Hid (leave ⟨3, n, p, e⟩ = (⟨0, 0, 0, 0⟩, 11))) (HO : Hid (openC ⟨3, n, p, e⟩ = (⟨os, on_, op, oe⟩, 0))) (HK : Hid (hold ⟨3, n, p, e⟩ = (⟨ks, kn, kp, ke⟩, 0))) (HR : Hid (rightB ⟨3, n, p, e⟩ = true)) (HRo : Hid (rightB ⟨os, on_, op, oe⟩ = true)) (HRh : Hid (rightB ⟨ks, kn, kp, ke⟩ = true)) :
    Calls Try.prog 7 #[.agg #[.int .i64 3, .int .i64 n, .int .i64 p, .int .i64 e], .int .u8 m] w fun e w' => e = .returned (.bool true) ∧ Below w.heap.size w w' := by
  have Hc := Lib.hid (show (w.alloc (.cells #[.int .i64 3, .int .i64 n, .int .i64 p, .int .i64 e] 23)).heap[w.heap.size]? = some (.cells #[.int .i64 3, .int .i64 n, .int .i64 p, .int .i64 e] 23 (0, 0)) from row_new _ _ _)
  have B0 : Below w.heap.size w (w.alloc (.cells #[.int .i64 3, .int .i64 n, .int .i64 p, .int .i64 e] 23)) := by go_grown
  go_enter Try.func7, Try.ntmps7
  go_wp2_with fail
  have BB := B0
  have Rc := Hc.out
  refine (shown_any _).mono ?_
  rintro e w1 ⟨rfl, hb⟩
  have B1 := below_only BB hb
  replace Rc := row_below Rc hb
  clear B0 BB hb Hc
  obtain ⟨c_0, c_1, c_2, c_3, c_f0, c_f1, c_f2, c_f3⟩ := box4 Rc
  have Hc := Lib.hid Rc; clear Rc
  have z_c := lt_of_heap Hc.out
  go_wp2_with fail
  have BB := B1
  have Rc := Hc.out
  clear c_0 c_1 c_2 c_3 c_f0 c_f1 c_f2 c_f3 z_c
  refine (enter_as HE _).mono ?_
  rintro e w2 ⟨rfl, hb⟩
  have B2 := below_only BB hb
  replace Rc := row_below Rc hb
  clear B1 BB hb Hc
  obtain ⟨c_0, c_1, c_2, c_3, c_f0, c_f1, c_f2, c_f3⟩ := box4 Rc
  have Hc := Lib.hid Rc; clear Rc
  have z_c := lt_of_heap Hc.out
  go_wp2_with fail
  have BB := (B2.alloc B2.size (.cells #[.int .i64 0, .int .i64 0, .int .i64 0, .int .i64 0] 23))
  have Rc := row_alloc (o' := .cells #[.int .i64 0, .int .i64 0, .int .i64 0, .int .i64 0] 23) (Hc.out)
  have Ra := row_new w2 #[.int .i64 0, .int .i64 0, .int .i64 0, .int .i64 0] 23
  clear c_0 c_1 c_2 c_3 c_f0 c_f1 c_f2 c_f3 z_c
  refine (leave_as HL _).mono ?_
  rintro e w3 ⟨rfl, hb⟩
  have B3 := below_only BB hb
  replace Rc := row_below Rc hb
  replace Ra := row_below Ra hb
  clear B2 BB hb Hc
  obtain ⟨c_0, c_1, c_2, c_3, c_f0, c_f1, c_f2, c_f3⟩ := box4 Rc
  have Hc := Lib.hid Rc; clear Rc
  obtain ⟨a_0, a_1, a_2, a_3, a_f0, a_f1, a_f2, a_f3⟩ := box4 Ra
  have Ha := Lib.hid Ra; clear Ra
  have z_c := lt_of_heap Hc.out
  have z_a := lt_of_heap Ha.out
  go_wp2_with fail
  have BB := (B3.alloc B3.size (.cells #[.int .i64 0, .int .i64 0, .int .i64 0, .int .i64 0] 23))
  have Rc := row_alloc (o' := .cells #[.int .i64 0, .int .i64 0, .int .i64 0, .int .i64 0] 23) (Hc.out)
  have Ra := row_alloc (o' := .cells #[.int .i64 0, .int .i64 0, .int .i64 0, .int .i64 0] 23) (Ha.out)
  have Rb := row_new w3 #[.int .i64 0, .int .i64 0, .int .i64 0, .int .i64 0] 23
  clear c_0 c_1 c_2 c_3 c_f0 c_f1 c_f2 c_f3 a_0 a_1 a_2 a_3 a_f0 a_f1 a_f2 a_f3 z_c z_a
  refine (open_as HO _).mono ?_
  rintro e w4 ⟨rfl, hb⟩
  have B4 := below_only BB hb
  replace Rc := row_below Rc hb
  replace Ra := row_below Ra hb
  replace Rb := row_below Rb hb
  clear B3 BB hb Hc Ha
  obtain ⟨c_0, c_1, c_2, c_3, c_f0, c_f1, c_f2, c_f3⟩ := box4 Rc
  have Hc := Lib.hid Rc; clear Rc
  obtain ⟨a_0, a_1, a_2, a_3, a_f0, a_f1, a_f2, a_f3⟩ := box4 Ra
  have Ha := Lib.hid Ra; clear Ra
  obtain ⟨b_0, b_1, b_2, b_3, b_f0, b_f1, b_f2, b_f3⟩ := box4 Rb
  have Hb := Lib.hid Rb; clear Rb
  have z_c := lt_of_heap Hc.out
  have z_a := lt_of_heap Ha.out
  have z_b := lt_of_heap Hb.out
  go_wp2_with fail
  have BB := (B4.alloc B4.size (.cells #[.int .i64 os, .int .i64 on_, .int .i64 op, .int .i64 oe] 23))
  have Rc := row_alloc (o' := .cells #[.int .i64 os, .int .i64 on_, .int .i64 op, .int .i64 oe] 23) (Hc.out)
  have Ra := row_alloc (o' := .cells #[.int .i64 os, .int .i64 on_, .int .i64 op, .int .i64 oe] 23) (Ha.out)
  have Rb := row_alloc (o' := .cells #[.int .i64 os, .int .i64 on_, .int .i64 op, .int .i64 oe] 23) (Hb.out)
  have Ro := row_new w4 #[.int .i64 os, .int .i64 on_, .int .i64 op, .int .i64 oe] 23
  clear c_0 c_1 c_2 c_3 c_f0 c_f1 c_f2 c_f3 a_0 a_1 a_2 a_3 a_f0 a_f1 a_f2 a_f3 b_0 b_1 b_2 b_3 b_f0 b_f1 b_f2 b_f3 z_c z_a z_b
  refine (hold_as HK _).mono ?_
  rintro e w5 ⟨rfl, hb⟩
  have B5 := below_only BB hb
  replace Rc := row_below Rc hb
  replace Ra := row_below Ra hb
  replace Rb := row_below Rb hb
  replace Ro := row_below Ro hb
  clear B4 BB hb Hc Ha Hb
  obtain ⟨c_0, c_1, c_2, c_3, c_f0, c_f1, c_f2, c_f3⟩ := box4 Rc
  have Hc := Lib.hid Rc; clear Rc
  obtain ⟨a_0, a_1, a_2, a_3, a_f0, a_f1, a_f2, a_f3⟩ := box4 Ra
  have Ha := Lib.hid Ra; clear Ra
  obtain ⟨b_0, b_1, b_2, b_3, b_f0, b_f1, b_f2, b_f3⟩ := box4 Rb
  have Hb := Lib.hid Rb; clear Rb
  obtain ⟨o_0, o_1, o_2, o_3, o_f0, o_f1, o_f2, o_f3⟩ := box4 Ro
  have Ho := Lib.hid Ro; clear Ro
  have z_c := lt_of_heap Hc.out
  have z_a := lt_of_heap Ha.out
  have z_b := lt_of_heap Hb.out
  have z_o := lt_of_heap Ho.out
  go_wp2_with fail
  have BB := ((B5.alloc B5.size (.cells #[.int .i64 ks, .int .i64 kn, .int .i64 kp, .int .i64 ke] 23)).alloc (B5.alloc B5.size (.cells #[.int .i64 ks, .int .i64 kn, .int .i64 kp, .int .i64 ke] 23)).size (.cells #[.int .i64 0, .int .i64 0, .int .i64 0, .int .i64 0] 23))
  have Rc := row_alloc (o' := .cells #[.int .i64 0, .int .i64 0, .int .i64 0, .int .i64 0] 23) (row_alloc (o' := .cells #[.int .i64 ks, .int .i64 kn, .int .i64 kp, .int .i64 ke] 23) (Hc.out))
  have Ra := row_alloc (o' := .cells #[.int .i64 0, .int .i64 0, .int .i64 0, .int .i64 0] 23) (row_alloc (o' := .cells #[.int .i64 ks, .int .i64 kn, .int .i64 kp, .int .i64 ke] 23) (Ha.out))
  have Rb := row_alloc (o' := .cells #[.int .i64 0, .int .i64 0, .int .i64 0, .int .i64 0] 23) (row_alloc (o' := .cells #[.int .i64 ks, .int .i64 kn, .int .i64 kp, .int .i64 ke] 23) (Hb.out))
  have Ro := row_alloc (o' := .cells #[.int .i64 0, .int .i64 0, .int .i64 0, .int .i64 0] 23) (row_alloc (o' := .cells #[.int .i64 ks, .int .i64 kn, .int .i64 kp, .int .i64 ke] 23) (Ho.out))
  have Rh := row_alloc (o' := .cells #[.int .i64 0, .int .i64 0, .int .i64 0, .int .i64 0] 23) (row_new w5 #[.int .i64 ks, .int .i64 kn, .int .i64 kp, .int .i64 ke] 23)
  have Rnone := (show ((w5.alloc (.cells #[.int .i64 ks, .int .i64 kn, .int .i64 kp, .int .i64 ke] 23)).alloc (.cells #[.int .i64 0, .int .i64 0, .int .i64 0, .int .i64 0] 23)).heap[(w5.heap.size + 1)]? = some (.cells #[.int .i64 0, .int .i64 0, .int .i64 0, .int .i64 0] 23 (0, 0)) from heap_at (by simp))
  clear c_0 c_1 c_2 c_3 c_f0 c_f1 c_f2 c_f3 a_0 a_1 a_2 a_3 a_f0 a_f1 a_f2 a_f3 b_0 b_1 b_2 b_3 b_f0 b_f1 b_f2 b_f3 o_0 o_1 o_2 o_3 o_f0 o_f1 o_f2 o_f3 z_c z_a z_b z_o
  refine (right_any _ _ _ _ _).mono ?_
  rintro e w6 ⟨rfl, hb⟩
  rw [HR.out]
  have B6 := below_only BB hb
  replace Rc := row_below Rc hb
  replace Ra := row_below Ra hb
  replace Rb := row_below Rb hb
  replace Ro := row_below Ro hb
  replace Rh := row_below Rh hb
  replace Rnone := row_below Rnone hb
  clear B5 BB hb Hc Ha Hb Ho
  obtain ⟨c_0, c_1, c_2, c_3, c_f0, c_f1, c_f2, c_f3⟩ := box4 Rc
  have Hc := Lib.hid Rc; clear Rc
  obtain ⟨a_0, a_1, a_2, a_3, a_f0, a_f1, a_f2, a_f3⟩ := box4 Ra
  have Ha := Lib.hid Ra; clear Ra
  obtain ⟨b_0, b_1, b_2, b_3, b_f0, b_f1, b_f2, b_f3⟩ := box4 Rb
  have Hb := Lib.hid Rb; clear Rb
  obtain ⟨o_0, o_1, o_2, o_3, o_f0, o_f1, o_f2, o_f3⟩ := box4 Ro
  have Ho := Lib.hid Ro; clear Ro
  obtain ⟨h_0, h_1, h_2, h_3, h_f0, h_f1, h_f2, h_f3⟩ := box4 Rh
  have Hh := Lib.hid Rh; clear Rh
  obtain ⟨none_0, none_1, none_2, none_3, none_f0, none_f1, none_f2, none_f3⟩ := box4 Rnone
  have Hnone := Lib.hid Rnone; clear Rnone
  have z_c := lt_of_heap Hc.out
  have z_a := lt_of_heap Ha.out
  have z_b := lt_of_heap Hb.out
  have z_o := lt_of_heap Ho.out
  have z_h := lt_of_heap Hh.out
  have z_none := lt_of_heap Hnone.out
  go_wp2_with fail
  have BB := B6
  have Rc := Hc.out
  have Ra := Ha.out
  have Rb := Hb.out
  have Ro := Ho.out
  have Rh := Hh.out
  have Rnone := Hnone.out
  clear c_0 c_1 c_2 c_3 c_f0 c_f1 c_f2 c_f3 a_0 a_1 a_2 a_3 a_f0 a_f1 a_f2 a_f3 b_0 b_1 b_2 b_3 b_f0 b_f1 b_f2 b_f3 o_0 o_1 o_2 o_3 o_f0 o_f1 o_f2 o_f3 h_0 h_1 h_2 h_3 h_f0 h_f1 h_f2 h_f3 none_0 none_1 none_2 none_3 none_f0 none_f1 none_f2 none_f3 z_c z_a z_b z_o z_h z_none
  refine (right_any _ _ _ _ _).mono ?_
  rintro e w7 ⟨rfl, hb⟩
  rw [HRo.out]
  have B7 := below_only BB hb
  replace Rc := row_below Rc hb
  replace Ra := row_below Ra hb
  replace Rb := row_below Rb hb
  replace Ro := row_below Ro hb
  replace Rh := row_below Rh hb
  replace Rnone := row_below Rnone hb
  clear B6 BB hb Hc Ha Hb Ho Hh Hnone
  obtain ⟨c_0, c_1, c_2, c_3, c_f0, c_f1, c_f2, c_f3⟩ := box4 Rc
  have Hc := Lib.hid Rc; clear Rc
  obtain ⟨a_0, a_1, a_2, a_3, a_f0, a_f1, a_f2, a_f3⟩ := box4 Ra
  have Ha := Lib.hid Ra; clear Ra
  obtain ⟨b_0, b_1, b_2, b_3, b_f0, b_f1, b_f2, b_f3⟩ := box4 Rb
  have Hb := Lib.hid Rb; clear Rb
  obtain ⟨o_0, o_1, o_2, o_3, o_f0, o_f1, o_f2, o_f3⟩ := box4 Ro
  have Ho := Lib.hid Ro; clear Ro
  obtain ⟨h_0, h_1, h_2, h_3, h_f0, h_f1, h_f2, h_f3⟩ := box4 Rh
  have Hh := Lib.hid Rh; clear Rh
  obtain ⟨none_0, none_1, none_2, none_3, none_f0, none_f1, none_f2, none_f3⟩ := box4 Rnone
  have Hnone := Lib.hid Rnone; clear Rnone
  have z_c := lt_of_heap Hc.out
  have z_a := lt_of_heap Ha.out
  have z_b := lt_of_heap Hb.out
  have z_o := lt_of_heap Ho.out
  have z_h := lt_of_heap Hh.out
  have z_none := lt_of_heap Hnone.out
  go_wp2_with fail
  have BB := B7
  have Rc := Hc.out
  have Ra := Ha.out
  have Rb := Hb.out
  have Ro := Ho.out
  have Rh := Hh.out
  have Rnone := Hnone.out
  clear c_0 c_1 c_2 c_3 c_f0 c_f1 c_f2 c_f3 a_0 a_1 a_2 a_3 a_f0 a_f1 a_f2 a_f3 b_0 b_1 b_2 b_3 b_f0 b_f1 b_f2 b_f3 o_0 o_1 o_2 o_3 o_f0 o_f1 o_f2 o_f3 h_0 h_1 h_2 h_3 h_f0 h_f1 h_f2 h_f3 none_0 none_1 none_2 none_3 none_f0 none_f1 none_f2 none_f3 z_c z_a z_b z_o z_h z_none
  refine (right_any _ _ _ _ _).mono ?_
  rintro e w8 ⟨rfl, hb⟩
  rw [HRh.out]
  have B8 := below_only BB hb
  replace Rc := row_below Rc hb
  replace Ra := row_below Ra hb
  replace Rb := row_below Rb hb
  replace Ro := row_below Ro hb
  replace Rh := row_below Rh hb
  replace Rnone := row_below Rnone hb
  clear B7 BB hb Hc Ha Hb Ho Hh Hnone
  obtain ⟨c_0, c_1, c_2, c_3, c_f0, c_f1, c_f2, c_f3⟩ := box4 Rc
  have Hc := Lib.hid Rc; clear Rc
  obtain ⟨a_0, a_1, a_2, a_3, a_f0, a_f1, a_f2, a_f3⟩ := box4 Ra
  have Ha := Lib.hid Ra; clear Ra
  obtain ⟨b_0, b_1, b_2, b_3, b_f0, b_f1, b_f2, b_f3⟩ := box4 Rb
  have Hb := Lib.hid Rb; clear Rb
  obtain ⟨o_0, o_1, o_2, o_3, o_f0, o_f1, o_f2, o_f3⟩ := box4 Ro
  have Ho := Lib.hid Ro; clear Ro
  obtain ⟨h_0, h_1, h_2, h_3, h_f0, h_f1, h_f2, h_f3⟩ := box4 Rh
  have Hh := Lib.hid Rh; clear Rh
  obtain ⟨none_0, none_1, none_2, none_3, none_f0, none_f1, none_f2, none_f3⟩ := box4 Rnone
  have Hnone := Lib.hid Rnone; clear Rnone
  have z_c := lt_of_heap Hc.out
  have z_a := lt_of_heap Ha.out
  have z_b := lt_of_heap Hb.out
  have z_o := lt_of_heap Ho.out
  have z_h := lt_of_heap Hh.out
  have z_none := lt_of_heap Hnone.out
  go_wp2_with fail
  go_ret
  exact ⟨rfl, B8⟩

end Go.Proofs.Ytgghnlmlgidooaa
