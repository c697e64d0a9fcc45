/- The law CtlBack's walk. -/
import Derived.Test.YtgghnlmlgidooaaCtlI
namespace Go.Proofs.Ytgghnlmlgidooaa
open Go.RowKit

set_option maxRecDepth 100000 in
set_option maxHeartbeats 4000000 in
theorem ctlBack_core (as_ an ap ae bs bn bp be x : Int) (w : World) (h0 : 0 ≤ x) (h1 : x ≤ 18446744073709551615) :
    Calls Try.prog 4 #[.agg #[.int .i64 as_, .int .i64 an, .int .i64 ap, .int .i64 ae], .agg #[.int .i64 bs, .int .i64 bn, .int .i64 bp, .int .i64 be], .int .u64 x] w fun e w' => e = .returned (.bool true) ∧ Below w.heap.size w w' := by
  obtain ⟨xs, xn, xp, xe, HX⟩ : ∃ a b c d, Hid (fit ⟨as_, an, ap, ae⟩ = ⟨a, b, c, d⟩) := ⟨_, _, _, _, rfl⟩
  obtain ⟨ys, yn, yp, ye, HY⟩ : ∃ a b c d, Hid (fit ⟨bs, bn, bp, be⟩ = ⟨a, b, c, d⟩) := ⟨_, _, _, _, rfl⟩
  have hx : Right ⟨xs, xn, xp, xe⟩ := by rw [← HX.out]; exact fit_right _
  have hy : Right ⟨ys, yn, yp, ye⟩ := by rw [← HY.out]; exact fit_right _
  obtain ⟨pv, hp⟩ : ∃ v, v = word ⟨xs, xn, xp, xe⟩ := ⟨_, rfl⟩
  obtain ⟨qv, hq⟩ : ∃ v, v = word ⟨ys, yn, yp, ye⟩ := ⟨_, rfl⟩
  obtain ⟨u0, u1, u2⟩ := right_word hx
  obtain ⟨v0, v1, v2⟩ := right_word hy
  rw [← hp] at u0 u1 u2
  rw [← hq] at v0 v1 v2
  have p0 : 0 ≤ pv := u0
  have p1 : pv ≤ 18446744073709551615 := by omega
  have p2 : decide (pv < 4398046511104) = true := decide_eq_true u1
  have pq : (pv == qv) = ctlEq ⟨xs, xn, xp, xe⟩ ⟨ys, yn, yp, ye⟩ := by
    rw [Bool.eq_iff_iff, ctlEq_iff]
    simp only [beq_iff_eq]
    constructor
    · intro h
      rw [← u2, ← v2, h]
    · intro h
      rw [hp, hq, h]
  have HP := Lib.hid (show pack ⟨xs, xn, xp, xe⟩ = (pv, 0) by rw [hp]; simp [pack, hx])
  have HQ := Lib.hid (show pack ⟨ys, yn, yp, ye⟩ = (qv, 0) by rw [hq]; simp [pack, hy])
  have HU := Lib.hid (show unpack pv = (⟨xs, xn, xp, xe⟩, 0) by simp [unpack, u2, hx, u1])
  clear hx hy hp hq u0 u1 u2 v0 v1 v2
  by_cases hr : Right (told x) ∧ x < 4398046511104
  · obtain ⟨cs, cn, cp, ce, HC⟩ : ∃ a b c d, Hid (told x = ⟨a, b, c, d⟩) := ⟨_, _, _, _, rfl⟩
    have HW := Lib.hid (show unpack x = (⟨cs, cn, cp, ce⟩, 0) by rw [unpack, if_pos hr, HC.out])
    have HA := Lib.hid (show pack ⟨cs, cn, cp, ce⟩ = (x, 0) by rw [← HC.out]; simp [pack, hr, word_told h0 hr.2])
    have HR := Lib.hid (show rightB ⟨cs, cn, cp, ce⟩ = true by rw [← HC.out]; exact rightB_t hr.1)
    clear hr HC
    have Ha := Lib.hid (show ((w.alloc (.cells #[.int .i64 as_, .int .i64 an, .int .i64 ap, .int .i64 ae] 23)).alloc (.cells #[.int .i64 bs, .int .i64 bn, .int .i64 bp, .int .i64 be] 23)).heap[w.heap.size]? = some (.cells #[.int .i64 as_, .int .i64 an, .int .i64 ap, .int .i64 ae] 23 (0, 0)) from row_alloc (row_new _ _ _))
    have Hb := Lib.hid (show ((w.alloc (.cells #[.int .i64 as_, .int .i64 an, .int .i64 ap, .int .i64 ae] 23)).alloc (.cells #[.int .i64 bs, .int .i64 bn, .int .i64 bp, .int .i64 be] 23)).heap[w.heap.size + 1]? = some (.cells #[.int .i64 bs, .int .i64 bn, .int .i64 bp, .int .i64 be] 23 (0, 0)) from heap_at (by simp))
    have B0 : Below w.heap.size w ((w.alloc (.cells #[.int .i64 as_, .int .i64 an, .int .i64 ap, .int .i64 ae] 23)).alloc (.cells #[.int .i64 bs, .int .i64 bn, .int .i64 bp, .int .i64 be] 23)) := by go_grown
    go_enter Try.func4, Try.ntmps4
    go_wp2_with fail
    have BB := B0
    have Ra := Ha.out
    have Rb := Hb.out
    refine (shown_any _).mono ?_
    rintro e w1 ⟨rfl, hb⟩
    have B1 := below_only BB hb
    replace Ra := row_below Ra hb
    replace Rb := row_below Rb hb
    clear B0 BB hb Ha Hb
    obtain ⟨a_0, a_1, a_2, a_3, a_f0, a_f1, a_f2, a_f3⟩ := box4 Ra
    have Ha := Lib.hid Ra; clear Ra
    obtain ⟨b_0, b_1, b_2, b_3, b_f0, b_f1, b_f2, b_f3⟩ := box4 Rb
    have Hb := Lib.hid Rb; clear Rb
    have z_a := lt_of_heap Ha.out
    have z_b := lt_of_heap Hb.out
    go_wp2_with fail
    have BB := B1
    have Ra := Ha.out
    have Rb := Hb.out
    clear a_0 a_1 a_2 a_3 a_f0 a_f1 a_f2 a_f3 b_0 b_1 b_2 b_3 b_f0 b_f1 b_f2 b_f3 z_a z_b
    refine (fit_as HX _).mono ?_
    rintro e w2 ⟨rfl, hb⟩
    have B2 := below_only BB hb
    replace Ra := row_below Ra hb
    replace Rb := row_below Rb hb
    clear B1 BB hb Ha Hb
    obtain ⟨a_0, a_1, a_2, a_3, a_f0, a_f1, a_f2, a_f3⟩ := box4 Ra
    have Ha := Lib.hid Ra; clear Ra
    obtain ⟨b_0, b_1, b_2, b_3, b_f0, b_f1, b_f2, b_f3⟩ := box4 Rb
    have Hb := Lib.hid Rb; clear Rb
    have z_a := lt_of_heap Ha.out
    have z_b := lt_of_heap Hb.out
    go_wp2_with fail
    have BB := (B2.alloc B2.size (.cells #[.int .i64 xs, .int .i64 xn, .int .i64 xp, .int .i64 xe] 23))
    have Ra := row_alloc (o' := .cells #[.int .i64 xs, .int .i64 xn, .int .i64 xp, .int .i64 xe] 23) (Ha.out)
    have Rb := row_alloc (o' := .cells #[.int .i64 xs, .int .i64 xn, .int .i64 xp, .int .i64 xe] 23) (Hb.out)
    have Rx := row_new w2 #[.int .i64 xs, .int .i64 xn, .int .i64 xp, .int .i64 xe] 23
    clear a_0 a_1 a_2 a_3 a_f0 a_f1 a_f2 a_f3 b_0 b_1 b_2 b_3 b_f0 b_f1 b_f2 b_f3 z_a z_b
    refine (fit_as HY _).mono ?_
    rintro e w3 ⟨rfl, hb⟩
    have B3 := below_only BB hb
    replace Ra := row_below Ra hb
    replace Rb := row_below Rb hb
    replace Rx := row_below Rx hb
    clear B2 BB hb Ha Hb
    obtain ⟨a_0, a_1, a_2, a_3, a_f0, a_f1, a_f2, a_f3⟩ := box4 Ra
    have Ha := Lib.hid Ra; clear Ra
    obtain ⟨b_0, b_1, b_2, b_3, b_f0, b_f1, b_f2, b_f3⟩ := box4 Rb
    have Hb := Lib.hid Rb; clear Rb
    obtain ⟨x_0, x_1, x_2, x_3, x_f0, x_f1, x_f2, x_f3⟩ := box4 Rx
    have Hx := Lib.hid Rx; clear Rx
    have z_a := lt_of_heap Ha.out
    have z_b := lt_of_heap Hb.out
    have z_x := lt_of_heap Hx.out
    go_wp2_with fail
    have BB := (B3.alloc B3.size (.cells #[.int .i64 ys, .int .i64 yn, .int .i64 yp, .int .i64 ye] 23))
    have Rx := row_alloc (o' := .cells #[.int .i64 ys, .int .i64 yn, .int .i64 yp, .int .i64 ye] 23) (Hx.out)
    have Ry := row_new w3 #[.int .i64 ys, .int .i64 yn, .int .i64 yp, .int .i64 ye] 23
    clear a_0 a_1 a_2 a_3 a_f0 a_f1 a_f2 a_f3 b_0 b_1 b_2 b_3 b_f0 b_f1 b_f2 b_f3 x_0 x_1 x_2 x_3 x_f0 x_f1 x_f2 x_f3 z_a z_b z_x
    refine (pack_as HP _).mono ?_
    rintro e w4 ⟨rfl, hb⟩
    have B4 := below_only BB hb
    replace Rx := row_below Rx hb
    replace Ry := row_below Ry hb
    clear B3 BB hb Ha Hb Hx
    obtain ⟨x_0, x_1, x_2, x_3, x_f0, x_f1, x_f2, x_f3⟩ := box4 Rx
    have Hx := Lib.hid Rx; clear Rx
    obtain ⟨y_0, y_1, y_2, y_3, y_f0, y_f1, y_f2, y_f3⟩ := box4 Ry
    have Hy := Lib.hid Ry; clear Ry
    have z_x := lt_of_heap Hx.out
    have z_y := lt_of_heap Hy.out
    go_wp2_with fail
    have BB := B4
    have Rx := Hx.out
    have Ry := Hy.out
    clear x_0 x_1 x_2 x_3 x_f0 x_f1 x_f2 x_f3 y_0 y_1 y_2 y_3 y_f0 y_f1 y_f2 y_f3 z_x z_y
    refine (pack_as HQ _).mono ?_
    rintro e w5 ⟨rfl, hb⟩
    have B5 := below_only BB hb
    replace Rx := row_below Rx hb
    replace Ry := row_below Ry hb
    clear B4 BB hb Hx Hy
    obtain ⟨x_0, x_1, x_2, x_3, x_f0, x_f1, x_f2, x_f3⟩ := box4 Rx
    have Hx := Lib.hid Rx; clear Rx
    obtain ⟨y_0, y_1, y_2, y_3, y_f0, y_f1, y_f2, y_f3⟩ := box4 Ry
    have Hy := Lib.hid Ry; clear Ry
    have z_x := lt_of_heap Hx.out
    have z_y := lt_of_heap Hy.out
    go_wp2_with fail
    have BB := B5
    have Rx := Hx.out
    have Ry := Hy.out
    clear x_0 x_1 x_2 x_3 x_f0 x_f1 x_f2 x_f3 y_0 y_1 y_2 y_3 y_f0 y_f1 y_f2 y_f3 z_x z_y
    refine (unpack_as HU p0 p1 _).mono ?_
    rintro e w6 ⟨rfl, hb⟩
    have B6 := below_only BB hb
    replace Rx := row_below Rx hb
    replace Ry := row_below Ry hb
    clear B5 BB hb Hx Hy
    obtain ⟨x_0, x_1, x_2, x_3, x_f0, x_f1, x_f2, x_f3⟩ := box4 Rx
    have Hx := Lib.hid Rx; clear Rx
    obtain ⟨y_0, y_1, y_2, y_3, y_f0, y_f1, y_f2, y_f3⟩ := box4 Ry
    have Hy := Lib.hid Ry; clear Ry
    have z_x := lt_of_heap Hx.out
    have z_y := lt_of_heap Hy.out
    go_wp2_with fail
    have BB := (B6.alloc B6.size (.cells #[.int .i64 xs, .int .i64 xn, .int .i64 xp, .int .i64 xe] 23))
    have Rx := row_alloc (o' := .cells #[.int .i64 xs, .int .i64 xn, .int .i64 xp, .int .i64 xe] 23) (Hx.out)
    have Ry := row_alloc (o' := .cells #[.int .i64 xs, .int .i64 xn, .int .i64 xp, .int .i64 xe] 23) (Hy.out)
    have Rk := row_new w6 #[.int .i64 xs, .int .i64 xn, .int .i64 xp, .int .i64 xe] 23
    clear x_0 x_1 x_2 x_3 x_f0 x_f1 x_f2 x_f3 y_0 y_1 y_2 y_3 y_f0 y_f1 y_f2 y_f3 z_x z_y
    refine (unpack_as HW h0 h1 _).mono ?_
    rintro e w7 ⟨rfl, hb⟩
    have B7 := below_only BB hb
    replace Rx := row_below Rx hb
    replace Ry := row_below Ry hb
    replace Rk := row_below Rk hb
    clear B6 BB hb Hx Hy
    obtain ⟨x_0, x_1, x_2, x_3, x_f0, x_f1, x_f2, x_f3⟩ := box4 Rx
    have Hx := Lib.hid Rx; clear Rx
    obtain ⟨y_0, y_1, y_2, y_3, y_f0, y_f1, y_f2, y_f3⟩ := box4 Ry
    have Hy := Lib.hid Ry; clear Ry
    obtain ⟨k_0, k_1, k_2, k_3, k_f0, k_f1, k_f2, k_f3⟩ := box4 Rk
    have Hk := Lib.hid Rk; clear Rk
    have z_x := lt_of_heap Hx.out
    have z_y := lt_of_heap Hy.out
    have z_k := lt_of_heap Hk.out
    go_wp2_with fail
    have BB := (B7.alloc B7.size (.cells #[.int .i64 cs, .int .i64 cn, .int .i64 cp, .int .i64 ce] 23))
    have Rx := row_alloc (o' := .cells #[.int .i64 cs, .int .i64 cn, .int .i64 cp, .int .i64 ce] 23) (Hx.out)
    have Ry := row_alloc (o' := .cells #[.int .i64 cs, .int .i64 cn, .int .i64 cp, .int .i64 ce] 23) (Hy.out)
    have Rk := row_alloc (o' := .cells #[.int .i64 cs, .int .i64 cn, .int .i64 cp, .int .i64 ce] 23) (Hk.out)
    have Rc := row_new w7 #[.int .i64 cs, .int .i64 cn, .int .i64 cp, .int .i64 ce] 23
    clear x_0 x_1 x_2 x_3 x_f0 x_f1 x_f2 x_f3 y_0 y_1 y_2 y_3 y_f0 y_f1 y_f2 y_f3 k_0 k_1 k_2 k_3 k_f0 k_f1 k_f2 k_f3 z_x z_y z_k
    refine (pack_as HA _).mono ?_
    rintro e w8 ⟨rfl, hb⟩
    have B8 := below_only BB hb
    replace Rx := row_below Rx hb
    replace Ry := row_below Ry hb
    replace Rk := row_below Rk hb
    replace Rc := row_below Rc hb
    clear B7 BB hb Hx Hy Hk
    obtain ⟨x_0, x_1, x_2, x_3, x_f0, x_f1, x_f2, x_f3⟩ := box4 Rx
    have Hx := Lib.hid Rx; clear Rx
    obtain ⟨y_0, y_1, y_2, y_3, y_f0, y_f1, y_f2, y_f3⟩ := box4 Ry
    have Hy := Lib.hid Ry; clear Ry
    obtain ⟨k_0, k_1, k_2, k_3, k_f0, k_f1, k_f2, k_f3⟩ := box4 Rk
    have Hk := Lib.hid Rk; clear Rk
    obtain ⟨c_0, c_1, c_2, c_3, c_f0, c_f1, c_f2, c_f3⟩ := box4 Rc
    have Hc := Lib.hid Rc; clear Rc
    have z_x := lt_of_heap Hx.out
    have z_y := lt_of_heap Hy.out
    have z_k := lt_of_heap Hk.out
    have z_c := lt_of_heap Hc.out
    go_wp2_with fail
    have BB := B8
    have Rx := Hx.out
    have Ry := Hy.out
    have Rk := Hk.out
    have Rc := Hc.out
    clear x_0 x_1 x_2 x_3 x_f0 x_f1 x_f2 x_f3 y_0 y_1 y_2 y_3 y_f0 y_f1 y_f2 y_f3 k_0 k_1 k_2 k_3 k_f0 k_f1 k_f2 k_f3 c_0 c_1 c_2 c_3 c_f0 c_f1 c_f2 c_f3 z_x z_y z_k z_c
    refine (right_any _ _ _ _ _).mono ?_
    rintro e w9 ⟨rfl, hb⟩
    rw [HR.out]
    have B9 := below_only BB hb
    replace Rx := row_below Rx hb
    replace Ry := row_below Ry hb
    replace Rk := row_below Rk hb
    replace Rc := row_below Rc hb
    clear B8 BB hb Hx Hy Hk Hc
    obtain ⟨x_0, x_1, x_2, x_3, x_f0, x_f1, x_f2, x_f3⟩ := box4 Rx
    have Hx := Lib.hid Rx; clear Rx
    obtain ⟨y_0, y_1, y_2, y_3, y_f0, y_f1, y_f2, y_f3⟩ := box4 Ry
    have Hy := Lib.hid Ry; clear Ry
    obtain ⟨k_0, k_1, k_2, k_3, k_f0, k_f1, k_f2, k_f3⟩ := box4 Rk
    have Hk := Lib.hid Rk; clear Rk
    obtain ⟨c_0, c_1, c_2, c_3, c_f0, c_f1, c_f2, c_f3⟩ := box4 Rc
    have Hc := Lib.hid Rc; clear Rc
    have z_x := lt_of_heap Hx.out
    have z_y := lt_of_heap Hy.out
    have z_k := lt_of_heap Hk.out
    have z_c := lt_of_heap Hc.out
    go_wp2_with fail
    go_ret
    exact ⟨rfl, B9⟩
  · have HW := Lib.hid (show unpack x = (⟨0, 0, 0, 0⟩, 1) by simp only [unpack]; rw [if_neg hr]; rfl)
    have HA := Lib.hid (show pack ⟨0, 0, 0, 0⟩ = (0, 1) by decide)
    clear hr
    have Ha := Lib.hid (show ((w.alloc (.cells #[.int .i64 as_, .int .i64 an, .int .i64 ap, .int .i64 ae] 23)).alloc (.cells #[.int .i64 bs, .int .i64 bn, .int .i64 bp, .int .i64 be] 23)).heap[w.heap.size]? = some (.cells #[.int .i64 as_, .int .i64 an, .int .i64 ap, .int .i64 ae] 23 (0, 0)) from row_alloc (row_new _ _ _))
    have Hb := Lib.hid (show ((w.alloc (.cells #[.int .i64 as_, .int .i64 an, .int .i64 ap, .int .i64 ae] 23)).alloc (.cells #[.int .i64 bs, .int .i64 bn, .int .i64 bp, .int .i64 be] 23)).heap[w.heap.size + 1]? = some (.cells #[.int .i64 bs, .int .i64 bn, .int .i64 bp, .int .i64 be] 23 (0, 0)) from heap_at (by simp))
    have B0 : Below w.heap.size w ((w.alloc (.cells #[.int .i64 as_, .int .i64 an, .int .i64 ap, .int .i64 ae] 23)).alloc (.cells #[.int .i64 bs, .int .i64 bn, .int .i64 bp, .int .i64 be] 23)) := by go_grown
    go_enter Try.func4, Try.ntmps4
    go_wp2_with fail
    have BB := B0
    have Ra := Ha.out
    have Rb := Hb.out
    refine (shown_any _).mono ?_
    rintro e w1 ⟨rfl, hb⟩
    have B1 := below_only BB hb
    replace Ra := row_below Ra hb
    replace Rb := row_below Rb hb
    clear B0 BB hb Ha Hb
    obtain ⟨a_0, a_1, a_2, a_3, a_f0, a_f1, a_f2, a_f3⟩ := box4 Ra
    have Ha := Lib.hid Ra; clear Ra
    obtain ⟨b_0, b_1, b_2, b_3, b_f0, b_f1, b_f2, b_f3⟩ := box4 Rb
    have Hb := Lib.hid Rb; clear Rb
    have z_a := lt_of_heap Ha.out
    have z_b := lt_of_heap Hb.out
    go_wp2_with fail
    have BB := B1
    have Ra := Ha.out
    have Rb := Hb.out
    clear a_0 a_1 a_2 a_3 a_f0 a_f1 a_f2 a_f3 b_0 b_1 b_2 b_3 b_f0 b_f1 b_f2 b_f3 z_a z_b
    refine (fit_as HX _).mono ?_
    rintro e w2 ⟨rfl, hb⟩
    have B2 := below_only BB hb
    replace Ra := row_below Ra hb
    replace Rb := row_below Rb hb
    clear B1 BB hb Ha Hb
    obtain ⟨a_0, a_1, a_2, a_3, a_f0, a_f1, a_f2, a_f3⟩ := box4 Ra
    have Ha := Lib.hid Ra; clear Ra
    obtain ⟨b_0, b_1, b_2, b_3, b_f0, b_f1, b_f2, b_f3⟩ := box4 Rb
    have Hb := Lib.hid Rb; clear Rb
    have z_a := lt_of_heap Ha.out
    have z_b := lt_of_heap Hb.out
    go_wp2_with fail
    have BB := (B2.alloc B2.size (.cells #[.int .i64 xs, .int .i64 xn, .int .i64 xp, .int .i64 xe] 23))
    have Ra := row_alloc (o' := .cells #[.int .i64 xs, .int .i64 xn, .int .i64 xp, .int .i64 xe] 23) (Ha.out)
    have Rb := row_alloc (o' := .cells #[.int .i64 xs, .int .i64 xn, .int .i64 xp, .int .i64 xe] 23) (Hb.out)
    have Rx := row_new w2 #[.int .i64 xs, .int .i64 xn, .int .i64 xp, .int .i64 xe] 23
    clear a_0 a_1 a_2 a_3 a_f0 a_f1 a_f2 a_f3 b_0 b_1 b_2 b_3 b_f0 b_f1 b_f2 b_f3 z_a z_b
    refine (fit_as HY _).mono ?_
    rintro e w3 ⟨rfl, hb⟩
    have B3 := below_only BB hb
    replace Ra := row_below Ra hb
    replace Rb := row_below Rb hb
    replace Rx := row_below Rx hb
    clear B2 BB hb Ha Hb
    obtain ⟨a_0, a_1, a_2, a_3, a_f0, a_f1, a_f2, a_f3⟩ := box4 Ra
    have Ha := Lib.hid Ra; clear Ra
    obtain ⟨b_0, b_1, b_2, b_3, b_f0, b_f1, b_f2, b_f3⟩ := box4 Rb
    have Hb := Lib.hid Rb; clear Rb
    obtain ⟨x_0, x_1, x_2, x_3, x_f0, x_f1, x_f2, x_f3⟩ := box4 Rx
    have Hx := Lib.hid Rx; clear Rx
    have z_a := lt_of_heap Ha.out
    have z_b := lt_of_heap Hb.out
    have z_x := lt_of_heap Hx.out
    go_wp2_with fail
    have BB := (B3.alloc B3.size (.cells #[.int .i64 ys, .int .i64 yn, .int .i64 yp, .int .i64 ye] 23))
    have Rx := row_alloc (o' := .cells #[.int .i64 ys, .int .i64 yn, .int .i64 yp, .int .i64 ye] 23) (Hx.out)
    have Ry := row_new w3 #[.int .i64 ys, .int .i64 yn, .int .i64 yp, .int .i64 ye] 23
    clear a_0 a_1 a_2 a_3 a_f0 a_f1 a_f2 a_f3 b_0 b_1 b_2 b_3 b_f0 b_f1 b_f2 b_f3 x_0 x_1 x_2 x_3 x_f0 x_f1 x_f2 x_f3 z_a z_b z_x
    refine (pack_as HP _).mono ?_
    rintro e w4 ⟨rfl, hb⟩
    have B4 := below_only BB hb
    replace Rx := row_below Rx hb
    replace Ry := row_below Ry hb
    clear B3 BB hb Ha Hb Hx
    obtain ⟨x_0, x_1, x_2, x_3, x_f0, x_f1, x_f2, x_f3⟩ := box4 Rx
    have Hx := Lib.hid Rx; clear Rx
    obtain ⟨y_0, y_1, y_2, y_3, y_f0, y_f1, y_f2, y_f3⟩ := box4 Ry
    have Hy := Lib.hid Ry; clear Ry
    have z_x := lt_of_heap Hx.out
    have z_y := lt_of_heap Hy.out
    go_wp2_with fail
    have BB := B4
    have Rx := Hx.out
    have Ry := Hy.out
    clear x_0 x_1 x_2 x_3 x_f0 x_f1 x_f2 x_f3 y_0 y_1 y_2 y_3 y_f0 y_f1 y_f2 y_f3 z_x z_y
    refine (pack_as HQ _).mono ?_
    rintro e w5 ⟨rfl, hb⟩
    have B5 := below_only BB hb
    replace Rx := row_below Rx hb
    replace Ry := row_below Ry hb
    clear B4 BB hb Hx Hy
    obtain ⟨x_0, x_1, x_2, x_3, x_f0, x_f1, x_f2, x_f3⟩ := box4 Rx
    have Hx := Lib.hid Rx; clear Rx
    obtain ⟨y_0, y_1, y_2, y_3, y_f0, y_f1, y_f2, y_f3⟩ := box4 Ry
    have Hy := Lib.hid Ry; clear Ry
    have z_x := lt_of_heap Hx.out
    have z_y := lt_of_heap Hy.out
    go_wp2_with fail
    have BB := B5
    have Rx := Hx.out
    have Ry := Hy.out
    clear x_0 x_1 x_2 x_3 x_f0 x_f1 x_f2 x_f3 y_0 y_1 y_2 y_3 y_f0 y_f1 y_f2 y_f3 z_x z_y
    refine (unpack_as HU p0 p1 _).mono ?_
    rintro e w6 ⟨rfl, hb⟩
    have B6 := below_only BB hb
    replace Rx := row_below Rx hb
    replace Ry := row_below Ry hb
    clear B5 BB hb Hx Hy
    obtain ⟨x_0, x_1, x_2, x_3, x_f0, x_f1, x_f2, x_f3⟩ := box4 Rx
    have Hx := Lib.hid Rx; clear Rx
    obtain ⟨y_0, y_1, y_2, y_3, y_f0, y_f1, y_f2, y_f3⟩ := box4 Ry
    have Hy := Lib.hid Ry; clear Ry
    have z_x := lt_of_heap Hx.out
    have z_y := lt_of_heap Hy.out
    go_wp2_with fail
    have BB := (B6.alloc B6.size (.cells #[.int .i64 xs, .int .i64 xn, .int .i64 xp, .int .i64 xe] 23))
    have Rx := row_alloc (o' := .cells #[.int .i64 xs, .int .i64 xn, .int .i64 xp, .int .i64 xe] 23) (Hx.out)
    have Ry := row_alloc (o' := .cells #[.int .i64 xs, .int .i64 xn, .int .i64 xp, .int .i64 xe] 23) (Hy.out)
    have Rk := row_new w6 #[.int .i64 xs, .int .i64 xn, .int .i64 xp, .int .i64 xe] 23
    clear x_0 x_1 x_2 x_3 x_f0 x_f1 x_f2 x_f3 y_0 y_1 y_2 y_3 y_f0 y_f1 y_f2 y_f3 z_x z_y
    refine (unpack_as HW h0 h1 _).mono ?_
    rintro e w7 ⟨rfl, hb⟩
    have B7 := below_only BB hb
    replace Rx := row_below Rx hb
    replace Ry := row_below Ry hb
    replace Rk := row_below Rk hb
    clear B6 BB hb Hx Hy
    obtain ⟨x_0, x_1, x_2, x_3, x_f0, x_f1, x_f2, x_f3⟩ := box4 Rx
    have Hx := Lib.hid Rx; clear Rx
    obtain ⟨y_0, y_1, y_2, y_3, y_f0, y_f1, y_f2, y_f3⟩ := box4 Ry
    have Hy := Lib.hid Ry; clear Ry
    obtain ⟨k_0, k_1, k_2, k_3, k_f0, k_f1, k_f2, k_f3⟩ := box4 Rk
    have Hk := Lib.hid Rk; clear Rk
    have z_x := lt_of_heap Hx.out
    have z_y := lt_of_heap Hy.out
    have z_k := lt_of_heap Hk.out
    go_wp2_with fail
    have BB := (B7.alloc B7.size (.cells #[.int .i64 0, .int .i64 0, .int .i64 0, .int .i64 0] 23))
    have Rx := row_alloc (o' := .cells #[.int .i64 0, .int .i64 0, .int .i64 0, .int .i64 0] 23) (Hx.out)
    have Ry := row_alloc (o' := .cells #[.int .i64 0, .int .i64 0, .int .i64 0, .int .i64 0] 23) (Hy.out)
    have Rk := row_alloc (o' := .cells #[.int .i64 0, .int .i64 0, .int .i64 0, .int .i64 0] 23) (Hk.out)
    have Rc := row_new w7 #[.int .i64 0, .int .i64 0, .int .i64 0, .int .i64 0] 23
    clear x_0 x_1 x_2 x_3 x_f0 x_f1 x_f2 x_f3 y_0 y_1 y_2 y_3 y_f0 y_f1 y_f2 y_f3 k_0 k_1 k_2 k_3 k_f0 k_f1 k_f2 k_f3 z_x z_y z_k
    refine (pack_as HA _).mono ?_
    rintro e w8 ⟨rfl, hb⟩
    have B8 := below_only BB hb
    replace Rx := row_below Rx hb
    replace Ry := row_below Ry hb
    replace Rk := row_below Rk hb
    replace Rc := row_below Rc hb
    clear B7 BB hb Hx Hy Hk
    obtain ⟨x_0, x_1, x_2, x_3, x_f0, x_f1, x_f2, x_f3⟩ := box4 Rx
    have Hx := Lib.hid Rx; clear Rx
    obtain ⟨y_0, y_1, y_2, y_3, y_f0, y_f1, y_f2, y_f3⟩ := box4 Ry
    have Hy := Lib.hid Ry; clear Ry
    obtain ⟨k_0, k_1, k_2, k_3, k_f0, k_f1, k_f2, k_f3⟩ := box4 Rk
    have Hk := Lib.hid Rk; clear Rk
    obtain ⟨c_0, c_1, c_2, c_3, c_f0, c_f1, c_f2, c_f3⟩ := box4 Rc
    have Hc := Lib.hid Rc; clear Rc
    have z_x := lt_of_heap Hx.out
    have z_y := lt_of_heap Hy.out
    have z_k := lt_of_heap Hk.out
    have z_c := lt_of_heap Hc.out
    go_wp2_with fail
    go_ret
    exact ⟨rfl, B8⟩

theorem ctlBack_walk (as_ an ap ae bs bn bp be x : Int) (w : World) (_ : (Lit.int .i64 as_).wf = true) (_ : (Lit.int .i64 an).wf = true) (_ : (Lit.int .i64 ap).wf = true) (_ : (Lit.int .i64 ae).wf = true)
    (_ : (Lit.int .i64 bs).wf = true) (_ : (Lit.int .i64 bn).wf = true) (_ : (Lit.int .i64 bp).wf = true) (_ : (Lit.int .i64 be).wf = true) (hx : (Lit.int .u64 x).wf = true) :
    Calls Try.prog 4 #[.agg #[.int .i64 as_, .int .i64 an, .int .i64 ap, .int .i64 ae], .agg #[.int .i64 bs, .int .i64 bn, .int .i64 bp, .int .i64 be], .int .u64 x] w fun e w' => e = .returned (.bool true) ∧ Below w.heap.size w w' :=
  ctlBack_core as_ an ap ae bs bn bp be x w (wf_u64 hx).1 (wf_u64 hx).2

end Go.Proofs.Ytgghnlmlgidooaa
