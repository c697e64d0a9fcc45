/- Contracts of package ctl and of its reference with their results named; the law CtlAll's walk. -/
import Derived.Test.YtgghnlmlgidooaaCtlH
namespace Go.Proofs.Ytgghnlmlgidooaa
open Go.RowKit

theorem pack_as {s n p e v c : Int} (H : Hid (pack ⟨s, n, p, e⟩ = (v, c))) (w : World) : Calls Try.prog 11 #[.agg #[.int .i64 s, .int .i64 n, .int .i64 p, .int .i64 e]] w fun r w' => r = .returned (.tuple #[.int .u64 v, .int .i64 c]) ∧ Below w.heap.size w w' := by
  have h := pack_any s n p e w
  rw [H.out] at h
  exact h
theorem rpack_as {s n p e v c : Int} (H : Hid (pack ⟨s, n, p, e⟩ = (v, c))) (w : World) : Calls Try.prog 18 #[.agg #[.int .i64 s, .int .i64 n, .int .i64 p, .int .i64 e]] w fun r w' => r = .returned (.tuple #[.int .u64 v, .int .i64 c]) ∧ Below w.heap.size w w' := by
  have h := rpack_any s n p e w
  rw [H.out] at h
  exact h
theorem unpack_as {x s n p e c : Int} (H : Hid (unpack x = (⟨s, n, p, e⟩, c))) (h0 : 0 ≤ x) (h1 : x ≤ 18446744073709551615) (w : World) : Calls Try.prog 12 #[.int .u64 x] w fun r w' => r = .returned (.tuple #[.agg #[.int .i64 s, .int .i64 n, .int .i64 p, .int .i64 e], .int .i64 c]) ∧ Below w.heap.size w w' := by
  have h := unpack_any x w h0 h1
  rw [H.out] at h
  exact h
theorem runpack_as {x s n p e c : Int} (H : Hid (unpack x = (⟨s, n, p, e⟩, c))) (h0 : 0 ≤ x) (h1 : x ≤ 18446744073709551615) (w : World) : Calls Try.prog 19 #[.int .u64 x] w fun r w' => r = .returned (.tuple #[.agg #[.int .i64 s, .int .i64 n, .int .i64 p, .int .i64 e], .int .i64 c]) ∧ Below w.heap.size w w' := by
  have h := runpack_any x w h0 h1
  rw [H.out] at h
  exact h
theorem enter_as {s n p e f s' n' p' e' c : Int} (H : Hid (enter ⟨s, n, p, e⟩ f = (⟨s', n', p', e'⟩, c))) (w : World) : Calls Try.prog 14 #[.agg #[.int .i64 s, .int .i64 n, .int .i64 p, .int .i64 e], .int .i64 f] w fun r w' => r = .returned (.tuple #[.agg #[.int .i64 s', .int .i64 n', .int .i64 p', .int .i64 e'], .int .i64 c]) ∧ Below w.heap.size w w' := by
  have h := enter_any s n p e f w
  rw [H.out] at h
  exact h
theorem renter_as {s n p e f s' n' p' e' c : Int} (H : Hid (enter ⟨s, n, p, e⟩ f = (⟨s', n', p', e'⟩, c))) (w : World) : Calls Try.prog 21 #[.agg #[.int .i64 s, .int .i64 n, .int .i64 p, .int .i64 e], .int .i64 f] w fun r w' => r = .returned (.tuple #[.agg #[.int .i64 s', .int .i64 n', .int .i64 p', .int .i64 e'], .int .i64 c]) ∧ Below w.heap.size w w' := by
  have h := renter_any s n p e f w
  rw [H.out] at h
  exact h
theorem leave_as {s n p e s' n' p' e' c : Int} (H : Hid (leave ⟨s, n, p, e⟩ = (⟨s', n', p', e'⟩, c))) (w : World) : Calls Try.prog 15 #[.agg #[.int .i64 s, .int .i64 n, .int .i64 p, .int .i64 e]] w fun r w' => r = .returned (.tuple #[.agg #[.int .i64 s', .int .i64 n', .int .i64 p', .int .i64 e'], .int .i64 c]) ∧ Below w.heap.size w w' := by
  have h := leave_any s n p e w
  rw [H.out] at h
  exact h
theorem rleave_as {s n p e s' n' p' e' c : Int} (H : Hid (leave ⟨s, n, p, e⟩ = (⟨s', n', p', e'⟩, c))) (w : World) : Calls Try.prog 22 #[.agg #[.int .i64 s, .int .i64 n, .int .i64 p, .int .i64 e]] w fun r w' => r = .returned (.tuple #[.agg #[.int .i64 s', .int .i64 n', .int .i64 p', .int .i64 e'], .int .i64 c]) ∧ Below w.heap.size w w' := by
  have h := rleave_any s n p e w
  rw [H.out] at h
  exact h
theorem open_as {s n p e s' n' p' e' c : Int} (H : Hid (openC ⟨s, n, p, e⟩ = (⟨s', n', p', e'⟩, c))) (w : World) : Calls Try.prog 16 #[.agg #[.int .i64 s, .int .i64 n, .int .i64 p, .int .i64 e]] w fun r w' => r = .returned (.tuple #[.agg #[.int .i64 s', .int .i64 n', .int .i64 p', .int .i64 e'], .int .i64 c]) ∧ Below w.heap.size w w' := by
  have h := open_any s n p e w
  rw [H.out] at h
  exact h
theorem ropen_as {s n p e s' n' p' e' c : Int} (H : Hid (openC ⟨s, n, p, e⟩ = (⟨s', n', p', e'⟩, c))) (w : World) : Calls Try.prog 23 #[.agg #[.int .i64 s, .int .i64 n, .int .i64 p, .int .i64 e]] w fun r w' => r = .returned (.tuple #[.agg #[.int .i64 s', .int .i64 n', .int .i64 p', .int .i64 e'], .int .i64 c]) ∧ Below w.heap.size w w' := by
  have h := ropen_any s n p e w
  rw [H.out] at h
  exact h
theorem hold_as {s n p e s' n' p' e' c : Int} (H : Hid (hold ⟨s, n, p, e⟩ = (⟨s', n', p', e'⟩, c))) (w : World) : Calls Try.prog 17 #[.agg #[.int .i64 s, .int .i64 n, .int .i64 p, .int .i64 e]] w fun r w' => r = .returned (.tuple #[.agg #[.int .i64 s', .int .i64 n', .int .i64 p', .int .i64 e'], .int .i64 c]) ∧ Below w.heap.size w w' := by
  have h := hold_any s n p e w
  rw [H.out] at h
  exact h
theorem rhold_as {s n p e s' n' p' e' c : Int} (H : Hid (hold ⟨s, n, p, e⟩ = (⟨s', n', p', e'⟩, c))) (w : World) : Calls Try.prog 24 #[.agg #[.int .i64 s, .int .i64 n, .int .i64 p, .int .i64 e]] w fun r w' => r = .returned (.tuple #[.agg #[.int .i64 s', .int .i64 n', .int .i64 p', .int .i64 e'], .int .i64 c]) ∧ Below w.heap.size w w' := by
  have h := rhold_any s n p e w
  rw [H.out] at h
  exact h
theorem fit_as {s n p e s' n' p' e' : Int} (H : Hid (fit ⟨s, n, p, e⟩ = ⟨s', n', p', e'⟩)) (w : World) : Calls Try.prog 10 #[.agg #[.int .i64 s, .int .i64 n, .int .i64 p, .int .i64 e]] w fun r w' => r = .returned (.agg #[.int .i64 s', .int .i64 n', .int .i64 p', .int .i64 e']) ∧ Below w.heap.size w w' := by
  have h := fit_any s n p e w
  rw [H.out] at h
  exact h

theorem ctl_parts (c : Ctl × Int) : ∃ s n p e k, Hid (c = (⟨s, n, p, e⟩, k)) := ⟨c.1.st, c.1.n, c.1.p, c.1.ep, c.2, rfl⟩

set_option maxRecDepth 100000 in
set_option maxHeartbeats 4000000 in
theorem ctlAll_core (s n p e f x : Int) (w : World) (h0 : 0 ≤ x) (h1 : x ≤ 18446744073709551615) :
    Calls Try.prog 8 #[.agg #[.int .i64 s, .int .i64 n, .int .i64 p, .int .i64 e], .int .i64 f, .int .u64 x] w fun e w' => e = .returned (.bool true) ∧ Below w.heap.size w w' := by
  obtain ⟨pv, pc, HP⟩ : ∃ v c, Hid (pack ⟨s, n, p, e⟩ = (v, c)) := ⟨_, _, rfl⟩
  obtain ⟨us, un, up, ue, uc, HU⟩ := ctl_parts (unpack x)
  obtain ⟨es, en, ep, ee, ec, HE⟩ := ctl_parts (enter ⟨s, n, p, e⟩ f)
  obtain ⟨ls, ln, lp, le, lc, HL⟩ := ctl_parts (leave ⟨s, n, p, e⟩)
  obtain ⟨os, on, op, oe, oc, HO⟩ := ctl_parts (openC ⟨s, n, p, e⟩)
  obtain ⟨ks, kn, kp, ke, kc, HK⟩ := ctl_parts (hold ⟨s, n, p, e⟩)
  have Hc := Lib.hid (show (w.alloc (.cells #[.int .i64 s, .int .i64 n, .int .i64 p, .int .i64 e] 23)).heap[w.heap.size]? = some (.cells #[.int .i64 s, .int .i64 n, .int .i64 p, .int .i64 e] 23 (0, 0)) from row_new _ _ _)
  have B0 : Below w.heap.size w (w.alloc (.cells #[.int .i64 s, .int .i64 n, .int .i64 p, .int .i64 e] 23)) := by go_grown
  go_enter Try.func8, Try.ntmps8
  go_wp2_with fail
  have BB := B0
  have Rc := Hc.out
  refine (shown_any _).mono ?_
  rintro e w1 ⟨rfl, hb⟩
  have B1 := below_only BB hb
  replace Rc := row_below Rc hb
  clear B0 BB hb Hc
  obtain ⟨c_0, c_1, c_2, c_3, c_f0, c_f1, c_f2, c_f3⟩ := box4 Rc
  have Hc := Lib.hid Rc; clear Rc
  have z_c := lt_of_heap Hc.out
  go_wp2_with fail
  have BB := B1
  have Rc := Hc.out
  clear c_0 c_1 c_2 c_3 c_f0 c_f1 c_f2 c_f3 z_c
  refine (pack_as HP _).mono ?_
  rintro e w2 ⟨rfl, hb⟩
  have B2 := below_only BB hb
  replace Rc := row_below Rc hb
  clear B1 BB hb Hc
  obtain ⟨c_0, c_1, c_2, c_3, c_f0, c_f1, c_f2, c_f3⟩ := box4 Rc
  have Hc := Lib.hid Rc; clear Rc
  have z_c := lt_of_heap Hc.out
  go_wp2_with fail
  have BB := B2
  have Rc := Hc.out
  clear c_0 c_1 c_2 c_3 c_f0 c_f1 c_f2 c_f3 z_c
  refine (rpack_as HP _).mono ?_
  rintro e w3 ⟨rfl, hb⟩
  have B3 := below_only BB hb
  replace Rc := row_below Rc hb
  clear B2 BB hb Hc
  obtain ⟨c_0, c_1, c_2, c_3, c_f0, c_f1, c_f2, c_f3⟩ := box4 Rc
  have Hc := Lib.hid Rc; clear Rc
  have z_c := lt_of_heap Hc.out
  go_wp2_with fail
  have BB := B3
  have Rc := Hc.out
  clear c_0 c_1 c_2 c_3 c_f0 c_f1 c_f2 c_f3 z_c
  refine (unpack_as HU h0 h1 _).mono ?_
  rintro e w4 ⟨rfl, hb⟩
  have B4 := below_only BB hb
  replace Rc := row_below Rc hb
  clear B3 BB hb Hc
  obtain ⟨c_0, c_1, c_2, c_3, c_f0, c_f1, c_f2, c_f3⟩ := box4 Rc
  have Hc := Lib.hid Rc; clear Rc
  have z_c := lt_of_heap Hc.out
  go_wp2_with fail
  have BB := (B4.alloc B4.size (.cells #[.int .i64 us, .int .i64 un, .int .i64 up, .int .i64 ue] 23))
  have Rc := row_alloc (o' := .cells #[.int .i64 us, .int .i64 un, .int .i64 up, .int .i64 ue] 23) (Hc.out)
  have Ru := row_new w4 #[.int .i64 us, .int .i64 un, .int .i64 up, .int .i64 ue] 23
  clear c_0 c_1 c_2 c_3 c_f0 c_f1 c_f2 c_f3 z_c
  refine (runpack_as HU h0 h1 _).mono ?_
  rintro e w5 ⟨rfl, hb⟩
  have B5 := below_only BB hb
  replace Rc := row_below Rc hb
  replace Ru := row_below Ru hb
  clear B4 BB hb Hc
  obtain ⟨c_0, c_1, c_2, c_3, c_f0, c_f1, c_f2, c_f3⟩ := box4 Rc
  have Hc := Lib.hid Rc; clear Rc
  obtain ⟨u_0, u_1, u_2, u_3, u_f0, u_f1, u_f2, u_f3⟩ := box4 Ru
  have Hu := Lib.hid Ru; clear Ru
  have z_c := lt_of_heap Hc.out
  have z_u := lt_of_heap Hu.out
  go_wp2_with fail
  have BB := B5.alloc B5.size (.cells #[.int .i64 us, .int .i64 un, .int .i64 up, .int .i64 ue] 23)
  go_region_held3 (Old (w5.alloc (.cells #[.int .i64 us, .int .i64 un, .int .i64 up, .int .i64 ue] 23))) ((go_split_ands; refine old_of ?_; first | (go_grown; done) | (refine below_only ?_ (by assumption); go_grown; done)))
    (first
      | (go_at_call 13; refine (right_any _ _ _ _ _).mono ?_; rintro r w6 ⟨rfl, hb6⟩)
      | (go_at_call 20; refine (rright_any _ _ _ _ _).mono ?_; rintro r w7 ⟨rfl, hb7⟩))
  have B7 := below_only (below_only BB.drew hb6) hb7
  have Rc := row_below (row_below (heap_drew (row_alloc Hc.out)) hb6) hb7
  clear Hc Hu BB hb6 hb7 c_0 c_1 c_2 c_3 c_f0 c_f1 c_f2 c_f3 u_0 u_1 u_2 u_3 u_f0 u_f1 u_f2 u_f3 z_c z_u B5
  obtain ⟨c_0, c_1, c_2, c_3, c_f0, c_f1, c_f2, c_f3⟩ := box4 Rc
  have Hc := Lib.hid Rc; clear Rc
  have z_c := lt_of_heap Hc.out
  go_wp2_with fail
  have BB := B7
  have Rc := Hc.out
  clear c_0 c_1 c_2 c_3 c_f0 c_f1 c_f2 c_f3 z_c
  refine (enter_as HE _).mono ?_
  rintro e w8 ⟨rfl, hb⟩
  have B8 := below_only BB hb
  replace Rc := row_below Rc hb
  clear B7 BB hb Hc
  obtain ⟨c_0, c_1, c_2, c_3, c_f0, c_f1, c_f2, c_f3⟩ := box4 Rc
  have Hc := Lib.hid Rc; clear Rc
  have z_c := lt_of_heap Hc.out
  go_wp2_with fail
  have BB := (B8.alloc B8.size (.cells #[.int .i64 es, .int .i64 en, .int .i64 ep, .int .i64 ee] 23))
  have Rc := row_alloc (o' := .cells #[.int .i64 es, .int .i64 en, .int .i64 ep, .int .i64 ee] 23) (Hc.out)
  have Rx := row_new w8 #[.int .i64 es, .int .i64 en, .int .i64 ep, .int .i64 ee] 23
  clear c_0 c_1 c_2 c_3 c_f0 c_f1 c_f2 c_f3 z_c
  refine (renter_as HE _).mono ?_
  rintro e w9 ⟨rfl, hb⟩
  have B9 := below_only BB hb
  replace Rc := row_below Rc hb
  replace Rx := row_below Rx hb
  clear B8 BB hb Hc
  obtain ⟨c_0, c_1, c_2, c_3, c_f0, c_f1, c_f2, c_f3⟩ := box4 Rc
  have Hc := Lib.hid Rc; clear Rc
  obtain ⟨x_0, x_1, x_2, x_3, x_f0, x_f1, x_f2, x_f3⟩ := box4 Rx
  have Hx := Lib.hid Rx; clear Rx
  have z_c := lt_of_heap Hc.out
  have z_x := lt_of_heap Hx.out
  go_wp2_with fail
  have BB := (B9.alloc B9.size (.cells #[.int .i64 es, .int .i64 en, .int .i64 ep, .int .i64 ee] 23))
  have Rc := row_alloc (o' := .cells #[.int .i64 es, .int .i64 en, .int .i64 ep, .int .i64 ee] 23) (Hc.out)
  have Rx := row_alloc (o' := .cells #[.int .i64 es, .int .i64 en, .int .i64 ep, .int .i64 ee] 23) (Hx.out)
  have Ry := row_new w9 #[.int .i64 es, .int .i64 en, .int .i64 ep, .int .i64 ee] 23
  clear c_0 c_1 c_2 c_3 c_f0 c_f1 c_f2 c_f3 x_0 x_1 x_2 x_3 x_f0 x_f1 x_f2 x_f3 z_c z_x
  refine (leave_as HL _).mono ?_
  rintro e w10 ⟨rfl, hb⟩
  have B10 := below_only BB hb
  replace Rc := row_below Rc hb
  replace Rx := row_below Rx hb
  replace Ry := row_below Ry hb
  clear B9 BB hb Hc Hx
  obtain ⟨c_0, c_1, c_2, c_3, c_f0, c_f1, c_f2, c_f3⟩ := box4 Rc
  have Hc := Lib.hid Rc; clear Rc
  obtain ⟨x_0, x_1, x_2, x_3, x_f0, x_f1, x_f2, x_f3⟩ := box4 Rx
  have Hx := Lib.hid Rx; clear Rx
  obtain ⟨y_0, y_1, y_2, y_3, y_f0, y_f1, y_f2, y_f3⟩ := box4 Ry
  have Hy := Lib.hid Ry; clear Ry
  have z_c := lt_of_heap Hc.out
  have z_x := lt_of_heap Hx.out
  have z_y := lt_of_heap Hy.out
  go_wp2_with fail
  have BB := (B10.alloc B10.size (.cells #[.int .i64 ls, .int .i64 ln, .int .i64 lp, .int .i64 le] 23))
  have Rc := row_alloc (o' := .cells #[.int .i64 ls, .int .i64 ln, .int .i64 lp, .int .i64 le] 23) (Hc.out)
  have Rx := row_alloc (o' := .cells #[.int .i64 ls, .int .i64 ln, .int .i64 lp, .int .i64 le] 23) (Hx.out)
  have Ry := row_alloc (o' := .cells #[.int .i64 ls, .int .i64 ln, .int .i64 lp, .int .i64 le] 23) (Hy.out)
  have Rm := row_new w10 #[.int .i64 ls, .int .i64 ln, .int .i64 lp, .int .i64 le] 23
  clear c_0 c_1 c_2 c_3 c_f0 c_f1 c_f2 c_f3 x_0 x_1 x_2 x_3 x_f0 x_f1 x_f2 x_f3 y_0 y_1 y_2 y_3 y_f0 y_f1 y_f2 y_f3 z_c z_x z_y
  refine (rleave_as HL _).mono ?_
  rintro e w11 ⟨rfl, hb⟩
  have B11 := below_only BB hb
  replace Rc := row_below Rc hb
  replace Rx := row_below Rx hb
  replace Ry := row_below Ry hb
  replace Rm := row_below Rm hb
  clear B10 BB hb Hc Hx Hy
  obtain ⟨c_0, c_1, c_2, c_3, c_f0, c_f1, c_f2, c_f3⟩ := box4 Rc
  have Hc := Lib.hid Rc; clear Rc
  obtain ⟨x_0, x_1, x_2, x_3, x_f0, x_f1, x_f2, x_f3⟩ := box4 Rx
  have Hx := Lib.hid Rx; clear Rx
  obtain ⟨y_0, y_1, y_2, y_3, y_f0, y_f1, y_f2, y_f3⟩ := box4 Ry
  have Hy := Lib.hid Ry; clear Ry
  obtain ⟨m_0, m_1, m_2, m_3, m_f0, m_f1, m_f2, m_f3⟩ := box4 Rm
  have Hm := Lib.hid Rm; clear Rm
  have z_c := lt_of_heap Hc.out
  have z_x := lt_of_heap Hx.out
  have z_y := lt_of_heap Hy.out
  have z_m := lt_of_heap Hm.out
  go_wp2_with fail
  have BB := (B11.alloc B11.size (.cells #[.int .i64 ls, .int .i64 ln, .int .i64 lp, .int .i64 le] 23))
  have Rc := row_alloc (o' := .cells #[.int .i64 ls, .int .i64 ln, .int .i64 lp, .int .i64 le] 23) (Hc.out)
  clear c_0 c_1 c_2 c_3 c_f0 c_f1 c_f2 c_f3 x_0 x_1 x_2 x_3 x_f0 x_f1 x_f2 x_f3 y_0 y_1 y_2 y_3 y_f0 y_f1 y_f2 y_f3 m_0 m_1 m_2 m_3 m_f0 m_f1 m_f2 m_f3 z_c z_x z_y z_m
  refine (open_as HO _).mono ?_
  rintro e w12 ⟨rfl, hb⟩
  have B12 := below_only BB hb
  replace Rc := row_below Rc hb
  clear B11 BB hb Hc Hx Hy Hm
  obtain ⟨c_0, c_1, c_2, c_3, c_f0, c_f1, c_f2, c_f3⟩ := box4 Rc
  have Hc := Lib.hid Rc; clear Rc
  have z_c := lt_of_heap Hc.out
  go_wp2_with fail
  have BB := (B12.alloc B12.size (.cells #[.int .i64 os, .int .i64 on, .int .i64 op, .int .i64 oe] 23))
  have Rc := row_alloc (o' := .cells #[.int .i64 os, .int .i64 on, .int .i64 op, .int .i64 oe] 23) (Hc.out)
  have Rr := row_new w12 #[.int .i64 os, .int .i64 on, .int .i64 op, .int .i64 oe] 23
  clear c_0 c_1 c_2 c_3 c_f0 c_f1 c_f2 c_f3 z_c
  refine (ropen_as HO _).mono ?_
  rintro e w13 ⟨rfl, hb⟩
  have B13 := below_only BB hb
  replace Rc := row_below Rc hb
  replace Rr := row_below Rr hb
  clear B12 BB hb Hc
  obtain ⟨c_0, c_1, c_2, c_3, c_f0, c_f1, c_f2, c_f3⟩ := box4 Rc
  have Hc := Lib.hid Rc; clear Rc
  obtain ⟨r_0, r_1, r_2, r_3, r_f0, r_f1, r_f2, r_f3⟩ := box4 Rr
  have Hr := Lib.hid Rr; clear Rr
  have z_c := lt_of_heap Hc.out
  have z_r := lt_of_heap Hr.out
  go_wp2_with fail
  have BB := (B13.alloc B13.size (.cells #[.int .i64 os, .int .i64 on, .int .i64 op, .int .i64 oe] 23))
  have Rc := row_alloc (o' := .cells #[.int .i64 os, .int .i64 on, .int .i64 op, .int .i64 oe] 23) (Hc.out)
  have Rr := row_alloc (o' := .cells #[.int .i64 os, .int .i64 on, .int .i64 op, .int .i64 oe] 23) (Hr.out)
  have Rq := row_new w13 #[.int .i64 os, .int .i64 on, .int .i64 op, .int .i64 oe] 23
  clear c_0 c_1 c_2 c_3 c_f0 c_f1 c_f2 c_f3 r_0 r_1 r_2 r_3 r_f0 r_f1 r_f2 r_f3 z_c z_r
  refine (hold_as HK _).mono ?_
  rintro e w14 ⟨rfl, hb⟩
  have B14 := below_only BB hb
  replace Rc := row_below Rc hb
  replace Rr := row_below Rr hb
  replace Rq := row_below Rq hb
  clear B13 BB hb Hc Hr
  obtain ⟨c_0, c_1, c_2, c_3, c_f0, c_f1, c_f2, c_f3⟩ := box4 Rc
  have Hc := Lib.hid Rc; clear Rc
  obtain ⟨r_0, r_1, r_2, r_3, r_f0, r_f1, r_f2, r_f3⟩ := box4 Rr
  have Hr := Lib.hid Rr; clear Rr
  obtain ⟨q_0, q_1, q_2, q_3, q_f0, q_f1, q_f2, q_f3⟩ := box4 Rq
  have Hq := Lib.hid Rq; clear Rq
  have z_c := lt_of_heap Hc.out
  have z_r := lt_of_heap Hr.out
  have z_q := lt_of_heap Hq.out
  go_wp2_with fail
  have BB := (B14.alloc B14.size (.cells #[.int .i64 ks, .int .i64 kn, .int .i64 kp, .int .i64 ke] 23))
  have Rc := row_alloc (o' := .cells #[.int .i64 ks, .int .i64 kn, .int .i64 kp, .int .i64 ke] 23) (Hc.out)
  have Rr := row_alloc (o' := .cells #[.int .i64 ks, .int .i64 kn, .int .i64 kp, .int .i64 ke] 23) (Hr.out)
  have Rq := row_alloc (o' := .cells #[.int .i64 ks, .int .i64 kn, .int .i64 kp, .int .i64 ke] 23) (Hq.out)
  have Ru := row_new w14 #[.int .i64 ks, .int .i64 kn, .int .i64 kp, .int .i64 ke] 23
  clear c_0 c_1 c_2 c_3 c_f0 c_f1 c_f2 c_f3 r_0 r_1 r_2 r_3 r_f0 r_f1 r_f2 r_f3 q_0 q_1 q_2 q_3 q_f0 q_f1 q_f2 q_f3 z_c z_r z_q
  refine (rhold_as HK _).mono ?_
  rintro e w15 ⟨rfl, hb⟩
  have B15 := below_only BB hb
  replace Rc := row_below Rc hb
  replace Rr := row_below Rr hb
  replace Rq := row_below Rq hb
  replace Ru := row_below Ru hb
  clear B14 BB hb Hc Hr Hq
  obtain ⟨c_0, c_1, c_2, c_3, c_f0, c_f1, c_f2, c_f3⟩ := box4 Rc
  have Hc := Lib.hid Rc; clear Rc
  obtain ⟨r_0, r_1, r_2, r_3, r_f0, r_f1, r_f2, r_f3⟩ := box4 Rr
  have Hr := Lib.hid Rr; clear Rr
  obtain ⟨q_0, q_1, q_2, q_3, q_f0, q_f1, q_f2, q_f3⟩ := box4 Rq
  have Hq := Lib.hid Rq; clear Rq
  obtain ⟨u_0, u_1, u_2, u_3, u_f0, u_f1, u_f2, u_f3⟩ := box4 Ru
  have Hu := Lib.hid Ru; clear Ru
  have z_c := lt_of_heap Hc.out
  have z_r := lt_of_heap Hr.out
  have z_q := lt_of_heap Hq.out
  have z_u := lt_of_heap Hu.out
  go_wp2_with fail
  go_ret
  exact ⟨rfl, B15.alloc B15.size _⟩

theorem ctlAll_walk (s n p e f x : Int) (w : World) (_ : (Lit.int .i64 s).wf = true) (_ : (Lit.int .i64 n).wf = true) (_ : (Lit.int .i64 p).wf = true) (_ : (Lit.int .i64 e).wf = true) (_ : (Lit.int .i64 f).wf = true) (hx : (Lit.int .u64 x).wf = true) :
    Calls Try.prog 8 #[.agg #[.int .i64 s, .int .i64 n, .int .i64 p, .int .i64 e], .int .i64 f, .int .u64 x] w fun e w' => e = .returned (.bool true) ∧ Below w.heap.size w w' :=
  ctlAll_core s n p e f x w (wf_u64 hx).1 (wf_u64 hx).2

end Go.Proofs.Ytgghnlmlgidooaa
